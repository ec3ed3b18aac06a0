/-
  No cell of these rows narrows 'for every input' (looked for: loops, veiled, ifaces, maps, wideKeys, modest, calm, conditions, laid).
  DERIVED. THE GIVEN ROWS OF THIS SEAT. 3 by the template 'for every input the law returns true; each argument reads behind the call as it read before'; 0 by the template 'total and deterministic' (their statements: YtlodnipimofpeaaTotals.lean).
  GIVEN WITH THE SEED: the statements are not yours to turn. If you find one false, say at which input.
  Laid BY PROGRAM, IN A SANDBOX (cutbox-rows.mjs): the forced cells as the released guide's own fill.sh prints them over the translation 265fc4b5d354e2f5… (all of the seat's roots in one cut). By AI agents, Wed Nov 11 2026. No macro, syntax, notation, axiom, sorry.
-/
import Derived.Test.YtlodnipimofpeaaChecked
import GoSem.Claim
import GoSem.ClaimJoined
import GoSem.ClaimMapViews
import Derived.JoinedTies
import Derived.KernelRfl
namespace Go.Proofs.Ytlodnipimofpeaa
/- THE CELL 'sum', in the pinned program and in every row, IS THE sha256 OF THE DUMP (.gsa) THAT YtlodnipimofpeaaProg.lean LOADS. Nothing in Lean hashes anything: it is a label: what it is worth is what the hold of that sum in a sandbox is worth. -/
noncomputable def Try.pinned : Pinned := { name := "ytlodnipimofpeaa", sum := "265fc4b5d354e2f531a079c8ad497d80a6b587f15bb354e0b622f21dbf03473c", checked := Try.checked }
namespace Rows
def none {H : Type} : Left H := { results := [], args := [] }

/-- 'sigillumlaw14.TimerMoves': WHATEVER THE INPUT: true; the input reads as it did. -/
def timerMovesSpec : ChangeSpec := { name := "timerMoves", fn := fun _ => fun
  | [d1, d2, d3] => { results := [.lit (.bool true)], args := [d1, d2, d3] }
  | _ => none }
def timerMovesRow : OpenClaim := { program := "ytlodnipimofpeaa", sum := "265fc4b5d354e2f531a079c8ad497d80a6b587f15bb354e0b622f21dbf03473c", func := "sigillum/sigillumlaw14.TimerMoves", spec := "timerMoves", unfollowed := true, recurses := true, apart := false }
def TimerMovesSaid : Prop := timerMovesRow.holds Try.pinned (OpenSpec.ofChange timerMovesSpec)

/-- ITS FALSE NEIGHBOUR: 'it returns false'. Refute it at one input. -/
def timerMovesWrong : ChangeSpec := { name := "timerMoves", fn := fun _ => fun
  | [d1, d2, d3] => { results := [.lit (.bool false)], args := [d1, d2, d3] }
  | _ => none }
def TimerMovesWrongFalsely : Prop := timerMovesRow.holds Try.pinned (OpenSpec.ofChange timerMovesWrong)

/-- 'sigillumlaw14.TimerCancel': WHATEVER THE INPUT: true; the input reads as it did. -/
def timerCancelSpec : ChangeSpec := { name := "timerCancel", fn := fun _ => fun
  | [d1, d2] => { results := [.lit (.bool true)], args := [d1, d2] }
  | _ => none }
def timerCancelRow : OpenClaim := { program := "ytlodnipimofpeaa", sum := "265fc4b5d354e2f531a079c8ad497d80a6b587f15bb354e0b622f21dbf03473c", func := "sigillum/sigillumlaw14.TimerCancel", spec := "timerCancel", unfollowed := true, recurses := true, apart := false }
def TimerCancelSaid : Prop := timerCancelRow.holds Try.pinned (OpenSpec.ofChange timerCancelSpec)

/-- ITS FALSE NEIGHBOUR: 'it returns false'. Refute it at one input. -/
def timerCancelWrong : ChangeSpec := { name := "timerCancel", fn := fun _ => fun
  | [d1, d2] => { results := [.lit (.bool false)], args := [d1, d2] }
  | _ => none }
def TimerCancelWrongFalsely : Prop := timerCancelRow.holds Try.pinned (OpenSpec.ofChange timerCancelWrong)

/-- 'sigillumlaw14.TimerRings': WHATEVER THE INPUT: true; the input reads as it did. -/
def timerRingsSpec : ChangeSpec := { name := "timerRings", fn := fun _ => fun
  | [d1, d2, d3] => { results := [.lit (.bool true)], args := [d1, d2, d3] }
  | _ => none }
def timerRingsRow : OpenClaim := { program := "ytlodnipimofpeaa", sum := "265fc4b5d354e2f531a079c8ad497d80a6b587f15bb354e0b622f21dbf03473c", func := "sigillum/sigillumlaw14.TimerRings", spec := "timerRings", unfollowed := true, recurses := true, apart := false }
def TimerRingsSaid : Prop := timerRingsRow.holds Try.pinned (OpenSpec.ofChange timerRingsSpec)

/-- ITS FALSE NEIGHBOUR: 'it returns false'. Refute it at one input. -/
def timerRingsWrong : ChangeSpec := { name := "timerRings", fn := fun _ => fun
  | [d1, d2, d3] => { results := [.lit (.bool false)], args := [d1, d2, d3] }
  | _ => none }
def TimerRingsWrongFalsely : Prop := timerRingsRow.holds Try.pinned (OpenSpec.ofChange timerRingsWrong)

/- THE SECOND FORM. 'bulk': how many values and letters a reading holds, each counted each time it is reached (what is shared counts as often as it is met; a slice's spare places count too). A statement '..UptoSaid' is the law's where the arguments, and the package variables that the reading takes, are together of bulk at most 1048576: NARROWER than '..Said'. Prove '..Said' where nothing that the law and all that it calls make is longer than what came in: it says more and counts as full. Else prove '..UptoSaid'. A law counts once. -/
mutual
def uptoBulk {H : Type} : DataW H → Nat
  | .lit (.string bytes) => bytes.length + 1
  | .lit _ => 1
  | .nil => 1
  | .ptr d => uptoBulk d + 1
  | .slice elems spare => uptoBulkAll elems + uptoBulkAll spare + 1
  | .agg parts => uptoBulkAll parts + 1
  | .iface _ d => uptoBulk d + 1
  | .map entries => uptoBulkEntries entries + 1
  | .held _ => 1
def uptoBulkAll {H : Type} : List (DataW H) → Nat
  | [] => 0
  | d :: r => uptoBulk d + uptoBulkAll r
def uptoBulkEntries {H : Type} : List (Lit × DataW H) → Nat
  | [] => 0
  | x :: r => uptoBulkEntry x + uptoBulkEntries r
def uptoBulkEntry {H : Type} : Lit × DataW H → Nat
  | (.string bytes, d) => bytes.length + uptoBulk d + 1
  | (_, d) => uptoBulk d + 1
 end
def uptoSmall : (H : Type) → List (DataW H) → Bool := fun _ ds => decide (uptoBulkAll ds ≤ 1048576)
def OpenSpec.upto (s : _root_.Go.ChangeSpec) : _root_.Go.OpenSpec := { _root_.Go.OpenSpec.ofChange s with cond := some uptoSmall }

/-- 'sigillumlaw14.TimerMoves', WHERE WHAT IT READS IS OF BULK AT MOST 1048576: true; the input reads as it did. -/
def timerMovesUptoRow : OpenClaim := { program := "ytlodnipimofpeaa", sum := "265fc4b5d354e2f531a079c8ad497d80a6b587f15bb354e0b622f21dbf03473c", func := "sigillum/sigillumlaw14.TimerMoves", spec := "timerMoves", unfollowed := true, recurses := true, apart := false, narrowed := true }
def TimerMovesUptoSaid : Prop := timerMovesUptoRow.holds Try.pinned (OpenSpec.upto timerMovesSpec)

/-- 'sigillumlaw14.TimerCancel', WHERE WHAT IT READS IS OF BULK AT MOST 1048576: true; the input reads as it did. -/
def timerCancelUptoRow : OpenClaim := { program := "ytlodnipimofpeaa", sum := "265fc4b5d354e2f531a079c8ad497d80a6b587f15bb354e0b622f21dbf03473c", func := "sigillum/sigillumlaw14.TimerCancel", spec := "timerCancel", unfollowed := true, recurses := true, apart := false, narrowed := true }
def TimerCancelUptoSaid : Prop := timerCancelUptoRow.holds Try.pinned (OpenSpec.upto timerCancelSpec)

/-- 'sigillumlaw14.TimerRings', WHERE WHAT IT READS IS OF BULK AT MOST 1048576: true; the input reads as it did. -/
def timerRingsUptoRow : OpenClaim := { program := "ytlodnipimofpeaa", sum := "265fc4b5d354e2f531a079c8ad497d80a6b587f15bb354e0b622f21dbf03473c", func := "sigillum/sigillumlaw14.TimerRings", spec := "timerRings", unfollowed := true, recurses := true, apart := false, narrowed := true }
def TimerRingsUptoSaid : Prop := timerRingsUptoRow.holds Try.pinned (OpenSpec.upto timerRingsSpec)

end Rows
end Go.Proofs.Ytlodnipimofpeaa
