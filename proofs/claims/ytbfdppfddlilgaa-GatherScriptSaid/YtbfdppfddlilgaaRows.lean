/-
  No cell of these rows narrows 'for every input' (looked for: loops, veiled, ifaces, maps, wideKeys, modest, calm, conditions, laid).
  DERIVED. THE GIVEN ROWS OF THIS SEAT. 4 by the template 'for every input the law returns true; each argument reads behind the call as it read before'; 0 by the template 'total and deterministic' (their statements: YtbfdppfddlilgaaTotals.lean).
  GIVEN WITH THE SEED: the statements are not yours to turn. If you find one false, say at which input.
  Laid BY PROGRAM, IN A SANDBOX (cutbox-rows.mjs): the forced cells as the released guide's own fill.sh prints them over the translation 65dc39881cffc17d… (all of the seat's roots in one cut). By AI agents, Wed Nov 11 2026. No macro, syntax, notation, axiom, sorry.
-/
import Derived.Test.YtbfdppfddlilgaaChecked
import GoSem.Claim
import GoSem.ClaimJoined
import GoSem.ClaimMapViews
import Derived.JoinedTies
import Derived.KernelRfl
namespace Go.Proofs.Ytbfdppfddlilgaa
/- THE CELL 'sum', in the pinned program and in every row, IS THE sha256 OF THE DUMP (.gsa) THAT YtbfdppfddlilgaaProg.lean LOADS. Nothing in Lean hashes anything: it is a label: what it is worth is what the hold of that sum in a sandbox is worth. -/
noncomputable def Try.pinned : Pinned := { name := "ytbfdppfddlilgaa", sum := "65dc39881cffc17d2834829197e2243b4b5da223d64cdfc29331e31439e3997d", checked := Try.checked }
namespace Rows
def none {H : Type} : Left H := { results := [], args := [] }

/-- 'sigillumlaw16.GatherOrder': WHATEVER THE INPUT: true; the input reads as it did. -/
def gatherOrderSpec : ChangeSpec := { name := "gatherOrder", fn := fun _ => fun
  | [d1, d2, d3] => { results := [.lit (.bool true)], args := [d1, d2, d3] }
  | _ => none }
def gatherOrderRow : OpenClaim := { program := "ytbfdppfddlilgaa", sum := "65dc39881cffc17d2834829197e2243b4b5da223d64cdfc29331e31439e3997d", func := "sigillum/sigillumlaw16.GatherOrder", spec := "gatherOrder", unfollowed := true, recurses := true, apart := false }
def GatherOrderSaid : Prop := gatherOrderRow.holds Try.pinned (OpenSpec.ofChange gatherOrderSpec)

/-- ITS FALSE NEIGHBOUR: 'it returns false'. Refute it at one input. -/
def gatherOrderWrong : ChangeSpec := { name := "gatherOrder", fn := fun _ => fun
  | [d1, d2, d3] => { results := [.lit (.bool false)], args := [d1, d2, d3] }
  | _ => none }
def GatherOrderWrongFalsely : Prop := gatherOrderRow.holds Try.pinned (OpenSpec.ofChange gatherOrderWrong)

/-- 'sigillumlaw16.GatherApart': WHATEVER THE INPUT: true; the input reads as it did. -/
def gatherApartSpec : ChangeSpec := { name := "gatherApart", fn := fun _ => fun
  | [d1, d2, d3, d4] => { results := [.lit (.bool true)], args := [d1, d2, d3, d4] }
  | _ => none }
def gatherApartRow : OpenClaim := { program := "ytbfdppfddlilgaa", sum := "65dc39881cffc17d2834829197e2243b4b5da223d64cdfc29331e31439e3997d", func := "sigillum/sigillumlaw16.GatherApart", spec := "gatherApart", unfollowed := true, recurses := true, apart := false }
def GatherApartSaid : Prop := gatherApartRow.holds Try.pinned (OpenSpec.ofChange gatherApartSpec)

/-- ITS FALSE NEIGHBOUR: 'it returns false'. Refute it at one input. -/
def gatherApartWrong : ChangeSpec := { name := "gatherApart", fn := fun _ => fun
  | [d1, d2, d3, d4] => { results := [.lit (.bool false)], args := [d1, d2, d3, d4] }
  | _ => none }
def GatherApartWrongFalsely : Prop := gatherApartRow.holds Try.pinned (OpenSpec.ofChange gatherApartWrong)

/-- 'sigillumlaw16.GatherScript': WHATEVER THE INPUT: true; the input reads as it did. -/
def gatherScriptSpec : ChangeSpec := { name := "gatherScript", fn := fun _ => fun
  | [d] => { results := [.lit (.bool true)], args := [d] }
  | _ => none }
def gatherScriptRow : OpenClaim := { program := "ytbfdppfddlilgaa", sum := "65dc39881cffc17d2834829197e2243b4b5da223d64cdfc29331e31439e3997d", func := "sigillum/sigillumlaw16.GatherScript", spec := "gatherScript", unfollowed := true, recurses := true, apart := false }
def GatherScriptSaid : Prop := gatherScriptRow.holds Try.pinned (OpenSpec.ofChange gatherScriptSpec)

/-- ITS FALSE NEIGHBOUR: 'it returns false'. Refute it at one input. -/
def gatherScriptWrong : ChangeSpec := { name := "gatherScript", fn := fun _ => fun
  | [d] => { results := [.lit (.bool false)], args := [d] }
  | _ => none }
def GatherScriptWrongFalsely : Prop := gatherScriptRow.holds Try.pinned (OpenSpec.ofChange gatherScriptWrong)

/-- 'sigillumlaw16.GatherForgets': WHATEVER THE INPUT: true; the input reads as it did. -/
def gatherForgetsSpec : ChangeSpec := { name := "gatherForgets", fn := fun _ => fun
  | [d1, d2] => { results := [.lit (.bool true)], args := [d1, d2] }
  | _ => none }
def gatherForgetsRow : OpenClaim := { program := "ytbfdppfddlilgaa", sum := "65dc39881cffc17d2834829197e2243b4b5da223d64cdfc29331e31439e3997d", func := "sigillum/sigillumlaw16.GatherForgets", spec := "gatherForgets", unfollowed := true, recurses := true, apart := false }
def GatherForgetsSaid : Prop := gatherForgetsRow.holds Try.pinned (OpenSpec.ofChange gatherForgetsSpec)

/-- ITS FALSE NEIGHBOUR: 'it returns false'. Refute it at one input. -/
def gatherForgetsWrong : ChangeSpec := { name := "gatherForgets", fn := fun _ => fun
  | [d1, d2] => { results := [.lit (.bool false)], args := [d1, d2] }
  | _ => none }
def GatherForgetsWrongFalsely : Prop := gatherForgetsRow.holds Try.pinned (OpenSpec.ofChange gatherForgetsWrong)

/- THE SECOND FORM. 'bulk': how many values and letters a reading holds, each counted each time it is reached (what is shared counts as often as it is met; a slice's spare places count too). A statement '..UptoSaid' is the law's where the arguments, and the package variables that the reading takes, are together of bulk at most 1048576: NARROWER than '..Said'. Prove '..Said' where nothing that the law and all that it calls make is longer than what came in: it says more and counts as full. Else prove '..UptoSaid'. A law counts once. -/
mutual
def uptoBulk {H : Type} : DataW H → Nat
  | .lit (.string bytes) => bytes.length + 1
  | .lit _ => 1
  | .nil => 1
  | .ptr d => uptoBulk d + 1
  | .slice elems spare => uptoBulkAll elems + uptoBulkAll spare + 1
  | .agg parts => uptoBulkAll parts + 1
  | .iface _ d => uptoBulk d + 1
  | .map entries => uptoBulkEntries entries + 1
  | .held _ => 1
def uptoBulkAll {H : Type} : List (DataW H) → Nat
  | [] => 0
  | d :: r => uptoBulk d + uptoBulkAll r
def uptoBulkEntries {H : Type} : List (Lit × DataW H) → Nat
  | [] => 0
  | x :: r => uptoBulkEntry x + uptoBulkEntries r
def uptoBulkEntry {H : Type} : Lit × DataW H → Nat
  | (.string bytes, d) => bytes.length + uptoBulk d + 1
  | (_, d) => uptoBulk d + 1
 end
def uptoSmall : (H : Type) → List (DataW H) → Bool := fun _ ds => decide (uptoBulkAll ds ≤ 1048576)
def OpenSpec.upto (s : _root_.Go.ChangeSpec) : _root_.Go.OpenSpec := { _root_.Go.OpenSpec.ofChange s with cond := some uptoSmall }

/-- 'sigillumlaw16.GatherOrder', WHERE WHAT IT READS IS OF BULK AT MOST 1048576: true; the input reads as it did. -/
def gatherOrderUptoRow : OpenClaim := { program := "ytbfdppfddlilgaa", sum := "65dc39881cffc17d2834829197e2243b4b5da223d64cdfc29331e31439e3997d", func := "sigillum/sigillumlaw16.GatherOrder", spec := "gatherOrder", unfollowed := true, recurses := true, apart := false, narrowed := true }
def GatherOrderUptoSaid : Prop := gatherOrderUptoRow.holds Try.pinned (OpenSpec.upto gatherOrderSpec)

/-- 'sigillumlaw16.GatherApart', WHERE WHAT IT READS IS OF BULK AT MOST 1048576: true; the input reads as it did. -/
def gatherApartUptoRow : OpenClaim := { program := "ytbfdppfddlilgaa", sum := "65dc39881cffc17d2834829197e2243b4b5da223d64cdfc29331e31439e3997d", func := "sigillum/sigillumlaw16.GatherApart", spec := "gatherApart", unfollowed := true, recurses := true, apart := false, narrowed := true }
def GatherApartUptoSaid : Prop := gatherApartUptoRow.holds Try.pinned (OpenSpec.upto gatherApartSpec)

/-- 'sigillumlaw16.GatherScript', WHERE WHAT IT READS IS OF BULK AT MOST 1048576: true; the input reads as it did. -/
def gatherScriptUptoRow : OpenClaim := { program := "ytbfdppfddlilgaa", sum := "65dc39881cffc17d2834829197e2243b4b5da223d64cdfc29331e31439e3997d", func := "sigillum/sigillumlaw16.GatherScript", spec := "gatherScript", unfollowed := true, recurses := true, apart := false, narrowed := true }
def GatherScriptUptoSaid : Prop := gatherScriptUptoRow.holds Try.pinned (OpenSpec.upto gatherScriptSpec)

/-- 'sigillumlaw16.GatherForgets', WHERE WHAT IT READS IS OF BULK AT MOST 1048576: true; the input reads as it did. -/
def gatherForgetsUptoRow : OpenClaim := { program := "ytbfdppfddlilgaa", sum := "65dc39881cffc17d2834829197e2243b4b5da223d64cdfc29331e31439e3997d", func := "sigillum/sigillumlaw16.GatherForgets", spec := "gatherForgets", unfollowed := true, recurses := true, apart := false, narrowed := true }
def GatherForgetsUptoSaid : Prop := gatherForgetsUptoRow.holds Try.pinned (OpenSpec.upto gatherForgetsSpec)

end Rows
end Go.Proofs.Ytbfdppfddlilgaa
