/-
  DERIVED. GIVEN WITH THE SEED: THE CARDS: each row of YtglebdfenojglaaDoorRows.lean that lists a variable, with what it lists TIED to the program's text (the seventh form; the later family's looks); each row that meets fmt, with fmt's text TOLD by the authors' own Lean function (tested against real Go, not proved from fmt's source: count such statements apart). THE CARD IS WHAT COUNTS. Prove the row's statement (the work); the ties are given (YtglebdfenojglaaDoorTie.lean); close each card by the builder's one call (the guide's Derived/Test/ToyasCard.lean, 'card_holds'). Laid BY PROGRAM, IN A SANDBOX (cutbox-door.mjs). By AI agents, Wed Nov 11 2026. No macro, syntax, notation, axiom, sorry.
-/
import Derived.Test.YtglebdfenojglaaDoorRows
import GoSem.ClaimSeven
namespace Go.Proofs.YtglebdfenojglaaDoor
namespace Rows

/-- THE TIED CARD OF 'sigillumlaw12.ThreadScript'. -/
def threadScriptCard : Claim7 := { stood := { row := threadScriptRow, standIns := [], harness := (true, "82014e03b89c08d112de0ab8d62664f35fce7c968c1c60197b9e9e69da1bd161"), looks := true }, kinds := [], alts := [], laidByText := true, laidKinds := [.handle], laidTests := true, laidLooks := .later }
def ThreadScriptCardSaid : Prop := Claim7.holds Tryd.pinned (.plain (OpenSpec.ofChange threadScriptSpec)) threadScriptCard

/-- THE TIED CARD OF 'sigillumlaw12.ThreadDead'. -/
def threadDeadCard : Claim7 := { stood := { row := threadDeadRow, standIns := [], harness := (true, "82014e03b89c08d112de0ab8d62664f35fce7c968c1c60197b9e9e69da1bd161"), looks := true }, kinds := [], alts := [], laidByText := true, laidKinds := [.handle], laidTests := true, laidLooks := .later }
def ThreadDeadCardSaid : Prop := Claim7.holds Tryd.pinned (.plain (OpenSpec.ofChange threadDeadSpec)) threadDeadCard

/-- THE SECOND FORM's CARD OF 'sigillumlaw12.ThreadScript'. -/
def threadScriptUptoCard : Claim7 := { stood := { row := threadScriptUptoRow, standIns := [], harness := (true, "82014e03b89c08d112de0ab8d62664f35fce7c968c1c60197b9e9e69da1bd161"), looks := true }, kinds := [], alts := [], laidByText := true, laidKinds := [.handle], laidTests := true, laidLooks := .later }
def ThreadScriptUptoCardSaid : Prop := Claim7.holds Tryd.pinned (.plain (OpenSpec.upto threadScriptSpec)) threadScriptUptoCard

/-- THE SECOND FORM's CARD OF 'sigillumlaw12.ThreadDead'. -/
def threadDeadUptoCard : Claim7 := { stood := { row := threadDeadUptoRow, standIns := [], harness := (true, "82014e03b89c08d112de0ab8d62664f35fce7c968c1c60197b9e9e69da1bd161"), looks := true }, kinds := [], alts := [], laidByText := true, laidKinds := [.handle], laidTests := true, laidLooks := .later }
def ThreadDeadUptoCardSaid : Prop := Claim7.holds Tryd.pinned (.plain (OpenSpec.upto threadDeadSpec)) threadDeadUptoCard
end Rows
end Go.Proofs.YtglebdfenojglaaDoor
