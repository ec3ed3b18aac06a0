/-
  DERIVED. GIVEN WITH THE SEED: THE CARDS: each row of YtilmbkefgifkhaaDoorRows.lean that lists a variable, with what it lists TIED to the program's text (the seventh form; the later family's looks); each row that meets fmt, with fmt's text TOLD by the authors' own Lean function (tested against real Go, not proved from fmt's source: count such statements apart). THE CARD IS WHAT COUNTS. Prove the row's statement (the work); the ties are given (YtilmbkefgifkhaaDoorTie.lean); close each card by the builder's one call (the guide's Derived/Test/ToyasCard.lean, 'card_holds'). Laid BY PROGRAM, IN A SANDBOX (cutbox-door.mjs). By AI agents, Wed Nov 11 2026. No macro, syntax, notation, axiom, sorry.
-/
import Derived.Test.YtilmbkefgifkhaaDoorRows
import GoSem.ClaimSeven
namespace Go.Proofs.YtilmbkefgifkhaaDoor
namespace Rows

/-- THE TIED CARD OF 'sigillumlaw20.MatchScript'. -/
def matchScriptCard : Claim7 := { stood := { row := matchScriptRow, standIns := [], harness := (true, "9bfedee08ad6c91261a85e4979b16465a43d02c6b5593c0f94a950ceed893a83"), looks := true }, kinds := [], alts := [], laidByText := true, laidKinds := [.handle], laidTests := true, laidLooks := .later }
def MatchScriptCardSaid : Prop := Claim7.holds Tryd.pinned (.plain (OpenSpec.ofChange matchScriptSpec)) matchScriptCard

/-- THE SECOND FORM's CARD OF 'sigillumlaw20.MatchScript'. -/
def matchScriptUptoCard : Claim7 := { stood := { row := matchScriptUptoRow, standIns := [], harness := (true, "9bfedee08ad6c91261a85e4979b16465a43d02c6b5593c0f94a950ceed893a83"), looks := true }, kinds := [], alts := [], laidByText := true, laidKinds := [.handle], laidTests := true, laidLooks := .later }
def MatchScriptUptoCardSaid : Prop := Claim7.holds Tryd.pinned (.plain (OpenSpec.upto matchScriptSpec)) matchScriptUptoCard
end Rows
end Go.Proofs.YtilmbkefgifkhaaDoor
