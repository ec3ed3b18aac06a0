/-
  DERIVED. GIVEN WITH THE SEED: THE CARDS: each row of YthiakdmhpfkjbaaGreatDoorRows.lean that lists a variable, with what it lists TIED to the program's text (the seventh form; the later family's looks); each row that meets fmt, with fmt's text TOLD by the authors' own Lean function (tested against real Go, not proved from fmt's source: count such statements apart). THE CARD IS WHAT COUNTS. Prove the row's statement (the work); the ties are given (YthiakdmhpfkjbaaGreatDoorTie.lean); close each card by the builder's one call (the guide's Derived/Test/ToyasCard.lean, 'card_holds'). Laid BY PROGRAM, IN A SANDBOX (cutbox-door.mjs). By AI agents, Wed Nov 11 2026. No macro, syntax, notation, axiom, sorry.
-/
import Derived.Test.YthiakdmhpfkjbaaGreatDoorRows
import GoSem.ClaimSeven
namespace Go.Proofs.YthiakdmhpfkjbaaGreatDoor
namespace Rows

/-- THE TIED CARD OF 'sigillumtop.TopLost'. -/
def topLostCard : Claim7 := { stood := { row := topLostRow, standIns := [], harness := (true, "d85a6c1e5634f7346914dd3bae3f3481a09b72f19a9004f93e2d3e7f833a78bf"), looks := true }, kinds := [], alts := [], laidByText := true, laidKinds := [.handle], laidTests := true, laidLooks := .later }
def TopLostCardSaid : Prop := Claim7.holds Tryz.pinned (.plain (OpenSpec.ofChange topLostSpec)) topLostCard

/-- THE TIED CARD OF 'sigillumtop.TopDoubled'. -/
def topDoubledCard : Claim7 := { stood := { row := topDoubledRow, standIns := [], harness := (true, "d85a6c1e5634f7346914dd3bae3f3481a09b72f19a9004f93e2d3e7f833a78bf"), looks := true }, kinds := [], alts := [], laidByText := true, laidKinds := [.handle], laidTests := true, laidLooks := .later }
def TopDoubledCardSaid : Prop := Claim7.holds Tryz.pinned (.plain (OpenSpec.ofChange topDoubledSpec)) topDoubledCard

/-- THE TIED CARD OF 'sigillumtop.TopDown'. -/
def topDownCard : Claim7 := { stood := { row := topDownRow, standIns := [], harness := (true, "d85a6c1e5634f7346914dd3bae3f3481a09b72f19a9004f93e2d3e7f833a78bf"), looks := true }, kinds := [], alts := [], laidByText := true, laidKinds := [.handle], laidTests := true, laidLooks := .later }
def TopDownCardSaid : Prop := Claim7.holds Tryz.pinned (.plain (OpenSpec.ofChange topDownSpec)) topDownCard

/-- THE TIED CARD OF 'sigillumtop.TopRevoked'. -/
def topRevokedCard : Claim7 := { stood := { row := topRevokedRow, standIns := [], harness := (true, "d85a6c1e5634f7346914dd3bae3f3481a09b72f19a9004f93e2d3e7f833a78bf"), looks := true }, kinds := [], alts := [], laidByText := true, laidKinds := [.handle], laidTests := true, laidLooks := .later }
def TopRevokedCardSaid : Prop := Claim7.holds Tryz.pinned (.plain (OpenSpec.ofChange topRevokedSpec)) topRevokedCard

/-- THE SECOND FORM's CARD OF 'sigillumtop.TopLost'. -/
def topLostUptoCard : Claim7 := { stood := { row := topLostUptoRow, standIns := [], harness := (true, "d85a6c1e5634f7346914dd3bae3f3481a09b72f19a9004f93e2d3e7f833a78bf"), looks := true }, kinds := [], alts := [], laidByText := true, laidKinds := [.handle], laidTests := true, laidLooks := .later }
def TopLostUptoCardSaid : Prop := Claim7.holds Tryz.pinned (.plain (OpenSpec.upto topLostSpec)) topLostUptoCard

/-- THE SECOND FORM's CARD OF 'sigillumtop.TopDoubled'. -/
def topDoubledUptoCard : Claim7 := { stood := { row := topDoubledUptoRow, standIns := [], harness := (true, "d85a6c1e5634f7346914dd3bae3f3481a09b72f19a9004f93e2d3e7f833a78bf"), looks := true }, kinds := [], alts := [], laidByText := true, laidKinds := [.handle], laidTests := true, laidLooks := .later }
def TopDoubledUptoCardSaid : Prop := Claim7.holds Tryz.pinned (.plain (OpenSpec.upto topDoubledSpec)) topDoubledUptoCard

/-- THE SECOND FORM's CARD OF 'sigillumtop.TopDown'. -/
def topDownUptoCard : Claim7 := { stood := { row := topDownUptoRow, standIns := [], harness := (true, "d85a6c1e5634f7346914dd3bae3f3481a09b72f19a9004f93e2d3e7f833a78bf"), looks := true }, kinds := [], alts := [], laidByText := true, laidKinds := [.handle], laidTests := true, laidLooks := .later }
def TopDownUptoCardSaid : Prop := Claim7.holds Tryz.pinned (.plain (OpenSpec.upto topDownSpec)) topDownUptoCard

/-- THE SECOND FORM's CARD OF 'sigillumtop.TopRevoked'. -/
def topRevokedUptoCard : Claim7 := { stood := { row := topRevokedUptoRow, standIns := [], harness := (true, "d85a6c1e5634f7346914dd3bae3f3481a09b72f19a9004f93e2d3e7f833a78bf"), looks := true }, kinds := [], alts := [], laidByText := true, laidKinds := [.handle], laidTests := true, laidLooks := .later }
def TopRevokedUptoCardSaid : Prop := Claim7.holds Tryz.pinned (.plain (OpenSpec.upto topRevokedSpec)) topRevokedUptoCard
end Rows
end Go.Proofs.YthiakdmhpfkjbaaGreatDoor
