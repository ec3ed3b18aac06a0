/-
  No cell of these rows narrows 'for every input' (looked for: loops, veiled, ifaces, maps, wideKeys, modest, calm, conditions, laid).
  DERIVED. THE GIVEN ROWS OF THIS SEAT. 3 by the template 'for every input the law returns true; each argument reads behind the call as it read before'; 0 by the template 'total and deterministic' (their statements: YtilmbkefgifkhaaTotals.lean).
  GIVEN WITH THE SEED: the statements are not yours to turn. If you find one false, say at which input.
  Laid BY PROGRAM, IN A SANDBOX (cutbox-rows.mjs): the forced cells as the released guide's own fill.sh prints them over the translation aa5756a1253319c0… (all of the seat's roots in one cut). By AI agents, Wed Nov 11 2026. No macro, syntax, notation, axiom, sorry.
-/
import Derived.Test.YtilmbkefgifkhaaChecked
import GoSem.Claim
import GoSem.ClaimJoined
import GoSem.ClaimMapViews
import Derived.JoinedTies
import Derived.KernelRfl
namespace Go.Proofs.Ytilmbkefgifkhaa
/- THE CELL 'sum', in the pinned program and in every row, IS THE sha256 OF THE DUMP (.gsa) THAT YtilmbkefgifkhaaProg.lean LOADS. Nothing in Lean hashes anything: it is a label: what it is worth is what the hold of that sum in a sandbox is worth. -/
noncomputable def Try.pinned : Pinned := { name := "ytilmbkefgifkhaa", sum := "aa5756a1253319c07eabac393d13d86c47a91806997459a07eaa6a97ceade83d", checked := Try.checked }
namespace Rows
def none {H : Type} : Left H := { results := [], args := [] }

/-- 'sigillumlaw20.MatchPorts': WHATEVER THE INPUT: true; the input reads as it did. -/
def matchPortsSpec : ChangeSpec := { name := "matchPorts", fn := fun _ => fun
  | [d1, d2, d3] => { results := [.lit (.bool true)], args := [d1, d2, d3] }
  | _ => none }
def matchPortsRow : OpenClaim := { program := "ytilmbkefgifkhaa", sum := "aa5756a1253319c07eabac393d13d86c47a91806997459a07eaa6a97ceade83d", func := "sigillum/sigillumlaw20.MatchPorts", spec := "matchPorts", unfollowed := true, recurses := true, apart := false }
def MatchPortsSaid : Prop := matchPortsRow.holds Try.pinned (OpenSpec.ofChange matchPortsSpec)

/-- ITS FALSE NEIGHBOUR: 'it returns false'. Refute it at one input. -/
def matchPortsWrong : ChangeSpec := { name := "matchPorts", fn := fun _ => fun
  | [d1, d2, d3] => { results := [.lit (.bool false)], args := [d1, d2, d3] }
  | _ => none }
def MatchPortsWrongFalsely : Prop := matchPortsRow.holds Try.pinned (OpenSpec.ofChange matchPortsWrong)

/-- 'sigillumlaw20.MatchOrder': WHATEVER THE INPUT: true; the input reads as it did. -/
def matchOrderSpec : ChangeSpec := { name := "matchOrder", fn := fun _ => fun
  | [d1, d2, d3] => { results := [.lit (.bool true)], args := [d1, d2, d3] }
  | _ => none }
def matchOrderRow : OpenClaim := { program := "ytilmbkefgifkhaa", sum := "aa5756a1253319c07eabac393d13d86c47a91806997459a07eaa6a97ceade83d", func := "sigillum/sigillumlaw20.MatchOrder", spec := "matchOrder", unfollowed := true, recurses := true, apart := false }
def MatchOrderSaid : Prop := matchOrderRow.holds Try.pinned (OpenSpec.ofChange matchOrderSpec)

/-- ITS FALSE NEIGHBOUR: 'it returns false'. Refute it at one input. -/
def matchOrderWrong : ChangeSpec := { name := "matchOrder", fn := fun _ => fun
  | [d1, d2, d3] => { results := [.lit (.bool false)], args := [d1, d2, d3] }
  | _ => none }
def MatchOrderWrongFalsely : Prop := matchOrderRow.holds Try.pinned (OpenSpec.ofChange matchOrderWrong)

/-- 'sigillumlaw20.MatchCancel': WHATEVER THE INPUT: true; the input reads as it did. -/
def matchCancelSpec : ChangeSpec := { name := "matchCancel", fn := fun _ => fun
  | [d1, d2, d3] => { results := [.lit (.bool true)], args := [d1, d2, d3] }
  | _ => none }
def matchCancelRow : OpenClaim := { program := "ytilmbkefgifkhaa", sum := "aa5756a1253319c07eabac393d13d86c47a91806997459a07eaa6a97ceade83d", func := "sigillum/sigillumlaw20.MatchCancel", spec := "matchCancel", unfollowed := true, recurses := true, apart := false }
def MatchCancelSaid : Prop := matchCancelRow.holds Try.pinned (OpenSpec.ofChange matchCancelSpec)

/-- ITS FALSE NEIGHBOUR: 'it returns false'. Refute it at one input. -/
def matchCancelWrong : ChangeSpec := { name := "matchCancel", fn := fun _ => fun
  | [d1, d2, d3] => { results := [.lit (.bool false)], args := [d1, d2, d3] }
  | _ => none }
def MatchCancelWrongFalsely : Prop := matchCancelRow.holds Try.pinned (OpenSpec.ofChange matchCancelWrong)

/- THE SECOND FORM. 'bulk': how many values and letters a reading holds, each counted each time it is reached (what is shared counts as often as it is met; a slice's spare places count too). A statement '..UptoSaid' is the law's where the arguments, and the package variables that the reading takes, are together of bulk at most 1048576: NARROWER than '..Said'. Prove '..Said' where nothing that the law and all that it calls make is longer than what came in: it says more and counts as full. Else prove '..UptoSaid'. A law counts once. -/
mutual
def uptoBulk {H : Type} : DataW H → Nat
  | .lit (.string bytes) => bytes.length + 1
  | .lit _ => 1
  | .nil => 1
  | .ptr d => uptoBulk d + 1
  | .slice elems spare => uptoBulkAll elems + uptoBulkAll spare + 1
  | .agg parts => uptoBulkAll parts + 1
  | .iface _ d => uptoBulk d + 1
  | .map entries => uptoBulkEntries entries + 1
  | .held _ => 1
def uptoBulkAll {H : Type} : List (DataW H) → Nat
  | [] => 0
  | d :: r => uptoBulk d + uptoBulkAll r
def uptoBulkEntries {H : Type} : List (Lit × DataW H) → Nat
  | [] => 0
  | x :: r => uptoBulkEntry x + uptoBulkEntries r
def uptoBulkEntry {H : Type} : Lit × DataW H → Nat
  | (.string bytes, d) => bytes.length + uptoBulk d + 1
  | (_, d) => uptoBulk d + 1
 end
def uptoSmall : (H : Type) → List (DataW H) → Bool := fun _ ds => decide (uptoBulkAll ds ≤ 1048576)
def OpenSpec.upto (s : _root_.Go.ChangeSpec) : _root_.Go.OpenSpec := { _root_.Go.OpenSpec.ofChange s with cond := some uptoSmall }

/-- 'sigillumlaw20.MatchPorts', WHERE WHAT IT READS IS OF BULK AT MOST 1048576: true; the input reads as it did. -/
def matchPortsUptoRow : OpenClaim := { program := "ytilmbkefgifkhaa", sum := "aa5756a1253319c07eabac393d13d86c47a91806997459a07eaa6a97ceade83d", func := "sigillum/sigillumlaw20.MatchPorts", spec := "matchPorts", unfollowed := true, recurses := true, apart := false, narrowed := true }
def MatchPortsUptoSaid : Prop := matchPortsUptoRow.holds Try.pinned (OpenSpec.upto matchPortsSpec)

/-- 'sigillumlaw20.MatchOrder', WHERE WHAT IT READS IS OF BULK AT MOST 1048576: true; the input reads as it did. -/
def matchOrderUptoRow : OpenClaim := { program := "ytilmbkefgifkhaa", sum := "aa5756a1253319c07eabac393d13d86c47a91806997459a07eaa6a97ceade83d", func := "sigillum/sigillumlaw20.MatchOrder", spec := "matchOrder", unfollowed := true, recurses := true, apart := false, narrowed := true }
def MatchOrderUptoSaid : Prop := matchOrderUptoRow.holds Try.pinned (OpenSpec.upto matchOrderSpec)

/-- 'sigillumlaw20.MatchCancel', WHERE WHAT IT READS IS OF BULK AT MOST 1048576: true; the input reads as it did. -/
def matchCancelUptoRow : OpenClaim := { program := "ytilmbkefgifkhaa", sum := "aa5756a1253319c07eabac393d13d86c47a91806997459a07eaa6a97ceade83d", func := "sigillum/sigillumlaw20.MatchCancel", spec := "matchCancel", unfollowed := true, recurses := true, apart := false, narrowed := true }
def MatchCancelUptoSaid : Prop := matchCancelUptoRow.holds Try.pinned (OpenSpec.upto matchCancelSpec)

end Rows
end Go.Proofs.Ytilmbkefgifkhaa
