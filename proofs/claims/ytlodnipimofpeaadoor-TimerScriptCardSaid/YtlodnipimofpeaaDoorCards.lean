/-
  DERIVED. GIVEN WITH THE SEED: THE CARDS: each row of YtlodnipimofpeaaDoorRows.lean that lists a variable, with what it lists TIED to the program's text (the seventh form; the later family's looks); each row that meets fmt, with fmt's text TOLD by the authors' own Lean function (tested against real Go, not proved from fmt's source: count such statements apart). THE CARD IS WHAT COUNTS. Prove the row's statement (the work); the ties are given (YtlodnipimofpeaaDoorTie.lean); close each card by the builder's one call (the guide's Derived/Test/ToyasCard.lean, 'card_holds'). Laid BY PROGRAM, IN A SANDBOX (cutbox-door.mjs). By AI agents, Wed Nov 11 2026. No macro, syntax, notation, axiom, sorry.
-/
import Derived.Test.YtlodnipimofpeaaDoorRows
import GoSem.ClaimSeven
namespace Go.Proofs.YtlodnipimofpeaaDoor
namespace Rows

/-- THE TIED CARD OF 'sigillumlaw14.TimerScript'. -/
def timerScriptCard : Claim7 := { stood := { row := timerScriptRow, standIns := [], harness := (true, "fcf9b314f670235b382e260ab7d7d9e34d043b48d3f976bbd3dec9b3c946eb87"), looks := true }, kinds := [], alts := [], laidByText := true, laidKinds := [.handle], laidTests := true, laidLooks := .later }
def TimerScriptCardSaid : Prop := Claim7.holds Tryd.pinned (.plain (OpenSpec.ofChange timerScriptSpec)) timerScriptCard

/-- THE SECOND FORM's CARD OF 'sigillumlaw14.TimerScript'. -/
def timerScriptUptoCard : Claim7 := { stood := { row := timerScriptUptoRow, standIns := [], harness := (true, "fcf9b314f670235b382e260ab7d7d9e34d043b48d3f976bbd3dec9b3c946eb87"), looks := true }, kinds := [], alts := [], laidByText := true, laidKinds := [.handle], laidTests := true, laidLooks := .later }
def TimerScriptUptoCardSaid : Prop := Claim7.holds Tryd.pinned (.plain (OpenSpec.upto timerScriptSpec)) timerScriptUptoCard
end Rows
end Go.Proofs.YtlodnipimofpeaaDoor
