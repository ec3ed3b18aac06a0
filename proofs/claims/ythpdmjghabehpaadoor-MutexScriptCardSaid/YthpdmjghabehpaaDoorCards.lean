/-
  DERIVED. GIVEN WITH THE SEED: THE CARDS: each row of YthpdmjghabehpaaDoorRows.lean that lists a variable, with what it lists TIED to the program's text (the seventh form; the later family's looks); each row that meets fmt, with fmt's text TOLD by the authors' own Lean function (tested against real Go, not proved from fmt's source: count such statements apart). THE CARD IS WHAT COUNTS. Prove the row's statement (the work); the ties are given (YthpdmjghabehpaaDoorTie.lean); close each card by the builder's one call (the guide's Derived/Test/ToyasCard.lean, 'card_holds'). Laid BY PROGRAM, IN A SANDBOX (cutbox-door.mjs). By AI agents, Wed Nov 11 2026. No macro, syntax, notation, axiom, sorry.
-/
import Derived.Test.YthpdmjghabehpaaDoorRows
import GoSem.ClaimSeven
namespace Go.Proofs.YthpdmjghabehpaaDoor
namespace Rows

/-- THE TIED CARD OF 'sigillumlaw13.MutexScript'. -/
def mutexScriptCard : Claim7 := { stood := { row := mutexScriptRow, standIns := [], harness := (true, "0df0a287234e72b9adfe586e8e2855d1f39198b5a5839fe5806a941780342f8c"), looks := true }, kinds := [], alts := [], laidByText := true, laidKinds := [.handle], laidTests := true, laidLooks := .later }
def MutexScriptCardSaid : Prop := Claim7.holds Tryd.pinned (.plain (OpenSpec.ofChange mutexScriptSpec)) mutexScriptCard

/-- THE TIED CARD OF 'sigillumlaw13.MutexState'. -/
def mutexStateCard : Claim7 := { stood := { row := mutexStateRow, standIns := [], harness := (true, "0df0a287234e72b9adfe586e8e2855d1f39198b5a5839fe5806a941780342f8c"), looks := true }, kinds := [], alts := [], laidByText := true, laidKinds := [.handle], laidTests := true, laidLooks := .later }
def MutexStateCardSaid : Prop := Claim7.holds Tryd.pinned (.plain (OpenSpec.ofChange mutexStateSpec)) mutexStateCard

/-- THE SECOND FORM's CARD OF 'sigillumlaw13.MutexScript'. -/
def mutexScriptUptoCard : Claim7 := { stood := { row := mutexScriptUptoRow, standIns := [], harness := (true, "0df0a287234e72b9adfe586e8e2855d1f39198b5a5839fe5806a941780342f8c"), looks := true }, kinds := [], alts := [], laidByText := true, laidKinds := [.handle], laidTests := true, laidLooks := .later }
def MutexScriptUptoCardSaid : Prop := Claim7.holds Tryd.pinned (.plain (OpenSpec.upto mutexScriptSpec)) mutexScriptUptoCard

/-- THE SECOND FORM's CARD OF 'sigillumlaw13.MutexState'. -/
def mutexStateUptoCard : Claim7 := { stood := { row := mutexStateUptoRow, standIns := [], harness := (true, "0df0a287234e72b9adfe586e8e2855d1f39198b5a5839fe5806a941780342f8c"), looks := true }, kinds := [], alts := [], laidByText := true, laidKinds := [.handle], laidTests := true, laidLooks := .later }
def MutexStateUptoCardSaid : Prop := Claim7.holds Tryd.pinned (.plain (OpenSpec.upto mutexStateSpec)) mutexStateUptoCard
end Rows
end Go.Proofs.YthpdmjghabehpaaDoor
