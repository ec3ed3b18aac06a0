/-
  No cell of these rows narrows 'for every input' (looked for: loops, veiled, ifaces, maps, wideKeys, modest, calm, conditions, laid).
  DERIVED. THE GIVEN ROWS OF THIS SEAT. 2 by the template 'for every input the law returns true; each argument reads behind the call as it read before'; 0 by the template 'total and deterministic' (their statements: YtjgcdlkbgneldaaTotals.lean).
  GIVEN WITH THE SEED: the statements are not yours to turn. If you find one false, say at which input.
  Laid BY PROGRAM, IN A SANDBOX (cutbox-rows.mjs): the forced cells as the released guide's own fill.sh prints them over the translation 6aa15a183ea6bde5… (all of the seat's roots in one cut). By AI agents, Wed Nov 11 2026. No macro, syntax, notation, axiom, sorry.
-/
import Derived.Test.YtjgcdlkbgneldaaChecked
import GoSem.Claim
import GoSem.ClaimJoined
import GoSem.ClaimMapViews
import Derived.JoinedTies
import Derived.KernelRfl
namespace Go.Proofs.Ytjgcdlkbgneldaa
/- THE CELL 'sum', in the pinned program and in every row, IS THE sha256 OF THE DUMP (.gsa) THAT YtjgcdlkbgneldaaProg.lean LOADS. Nothing in Lean hashes anything: it is a label: what it is worth is what the hold of that sum in a sandbox is worth. -/
noncomputable def Try.pinned : Pinned := { name := "ytjgcdlkbgneldaa", sum := "6aa15a183ea6bde5afad47e7adcc29c37c5f56525099f2e6561b46a0004174ed", checked := Try.checked }
namespace Rows
def none {H : Type} : Left H := { results := [], args := [] }

/-- 'sigillumlaw15.FragJoin': WHATEVER THE INPUT: true; the input reads as it did. -/
def fragJoinSpec : ChangeSpec := { name := "fragJoin", fn := fun _ => fun
  | [d] => { results := [.lit (.bool true)], args := [d] }
  | _ => none }
def fragJoinRow : OpenClaim := { program := "ytjgcdlkbgneldaa", sum := "6aa15a183ea6bde5afad47e7adcc29c37c5f56525099f2e6561b46a0004174ed", func := "sigillum/sigillumlaw15.FragJoin", spec := "fragJoin", apart := false }
def FragJoinSaid : Prop := fragJoinRow.holds Try.pinned (OpenSpec.ofChange fragJoinSpec)

/-- ITS FALSE NEIGHBOUR: 'it returns false'. Refute it at one input. -/
def fragJoinWrong : ChangeSpec := { name := "fragJoin", fn := fun _ => fun
  | [d] => { results := [.lit (.bool false)], args := [d] }
  | _ => none }
def FragJoinWrongFalsely : Prop := fragJoinRow.holds Try.pinned (OpenSpec.ofChange fragJoinWrong)

/-- 'sigillumlaw15.FragSizes': WHATEVER THE INPUT: true; the input reads as it did. -/
def fragSizesSpec : ChangeSpec := { name := "fragSizes", fn := fun _ => fun
  | [d1, d2] => { results := [.lit (.bool true)], args := [d1, d2] }
  | _ => none }
def fragSizesRow : OpenClaim := { program := "ytjgcdlkbgneldaa", sum := "6aa15a183ea6bde5afad47e7adcc29c37c5f56525099f2e6561b46a0004174ed", func := "sigillum/sigillumlaw15.FragSizes", spec := "fragSizes", apart := false }
def FragSizesSaid : Prop := fragSizesRow.holds Try.pinned (OpenSpec.ofChange fragSizesSpec)

/-- ITS FALSE NEIGHBOUR: 'it returns false'. Refute it at one input. -/
def fragSizesWrong : ChangeSpec := { name := "fragSizes", fn := fun _ => fun
  | [d1, d2] => { results := [.lit (.bool false)], args := [d1, d2] }
  | _ => none }
def FragSizesWrongFalsely : Prop := fragSizesRow.holds Try.pinned (OpenSpec.ofChange fragSizesWrong)

/- THE SECOND FORM. 'bulk': how many values and letters a reading holds, each counted each time it is reached (what is shared counts as often as it is met; a slice's spare places count too). A statement '..UptoSaid' is the law's where the arguments, and the package variables that the reading takes, are together of bulk at most 1048576: NARROWER than '..Said'. Prove '..Said' where nothing that the law and all that it calls make is longer than what came in: it says more and counts as full. Else prove '..UptoSaid'. A law counts once. -/
mutual
def uptoBulk {H : Type} : DataW H → Nat
  | .lit (.string bytes) => bytes.length + 1
  | .lit _ => 1
  | .nil => 1
  | .ptr d => uptoBulk d + 1
  | .slice elems spare => uptoBulkAll elems + uptoBulkAll spare + 1
  | .agg parts => uptoBulkAll parts + 1
  | .iface _ d => uptoBulk d + 1
  | .map entries => uptoBulkEntries entries + 1
  | .held _ => 1
def uptoBulkAll {H : Type} : List (DataW H) → Nat
  | [] => 0
  | d :: r => uptoBulk d + uptoBulkAll r
def uptoBulkEntries {H : Type} : List (Lit × DataW H) → Nat
  | [] => 0
  | x :: r => uptoBulkEntry x + uptoBulkEntries r
def uptoBulkEntry {H : Type} : Lit × DataW H → Nat
  | (.string bytes, d) => bytes.length + uptoBulk d + 1
  | (_, d) => uptoBulk d + 1
 end
def uptoSmall : (H : Type) → List (DataW H) → Bool := fun _ ds => decide (uptoBulkAll ds ≤ 1048576)
def OpenSpec.upto (s : _root_.Go.ChangeSpec) : _root_.Go.OpenSpec := { _root_.Go.OpenSpec.ofChange s with cond := some uptoSmall }

/-- 'sigillumlaw15.FragJoin', WHERE WHAT IT READS IS OF BULK AT MOST 1048576: true; the input reads as it did. -/
def fragJoinUptoRow : OpenClaim := { program := "ytjgcdlkbgneldaa", sum := "6aa15a183ea6bde5afad47e7adcc29c37c5f56525099f2e6561b46a0004174ed", func := "sigillum/sigillumlaw15.FragJoin", spec := "fragJoin", apart := false, narrowed := true }
def FragJoinUptoSaid : Prop := fragJoinUptoRow.holds Try.pinned (OpenSpec.upto fragJoinSpec)

/-- 'sigillumlaw15.FragSizes', WHERE WHAT IT READS IS OF BULK AT MOST 1048576: true; the input reads as it did. -/
def fragSizesUptoRow : OpenClaim := { program := "ytjgcdlkbgneldaa", sum := "6aa15a183ea6bde5afad47e7adcc29c37c5f56525099f2e6561b46a0004174ed", func := "sigillum/sigillumlaw15.FragSizes", spec := "fragSizes", apart := false, narrowed := true }
def FragSizesUptoSaid : Prop := fragSizesUptoRow.holds Try.pinned (OpenSpec.upto fragSizesSpec)

end Rows
end Go.Proofs.Ytjgcdlkbgneldaa
