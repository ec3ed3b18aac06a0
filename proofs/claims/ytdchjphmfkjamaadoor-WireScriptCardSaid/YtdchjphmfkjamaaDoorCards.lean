/-
  DERIVED. GIVEN WITH THE SEED: THE CARDS: each row of YtdchjphmfkjamaaDoorRows.lean that lists a variable, with what it lists TIED to the program's text (the seventh form; the later family's looks); each row that meets fmt, with fmt's text TOLD by the authors' own Lean function (tested against real Go, not proved from fmt's source: count such statements apart). THE CARD IS WHAT COUNTS. Prove the row's statement (the work); the ties are given (YtdchjphmfkjamaaDoorTie.lean); close each card by the builder's one call (the guide's Derived/Test/ToyasCard.lean, 'card_holds'). Laid BY PROGRAM, IN A SANDBOX (cutbox-door.mjs). By AI agents, Wed Nov 11 2026. No macro, syntax, notation, axiom, sorry.
-/
import Derived.Test.YtdchjphmfkjamaaDoorRows
import GoSem.ClaimSeven
namespace Go.Proofs.YtdchjphmfkjamaaDoor
namespace Rows

/-- THE TIED CARD OF 'sigillumlaw17.WireScript'. -/
def wireScriptCard : Claim7 := { stood := { row := wireScriptRow, standIns := [], harness := (true, "d1ae73a9095db8c6ed35fc19966ab3c87c99cc6915b77c522c640e17d94eeb04"), looks := true }, kinds := [], alts := [], laidByText := true, laidKinds := [.handle], laidTests := true, laidLooks := .later }
def WireScriptCardSaid : Prop := Claim7.holds Tryd.pinned (.plain (OpenSpec.ofChange wireScriptSpec)) wireScriptCard

/-- THE SECOND FORM's CARD OF 'sigillumlaw17.WireScript'. -/
def wireScriptUptoCard : Claim7 := { stood := { row := wireScriptUptoRow, standIns := [], harness := (true, "d1ae73a9095db8c6ed35fc19966ab3c87c99cc6915b77c522c640e17d94eeb04"), looks := true }, kinds := [], alts := [], laidByText := true, laidKinds := [.handle], laidTests := true, laidLooks := .later }
def WireScriptUptoCardSaid : Prop := Claim7.holds Tryd.pinned (.plain (OpenSpec.upto wireScriptSpec)) wireScriptUptoCard
end Rows
end Go.Proofs.YtdchjphmfkjamaaDoor
