/-
  DERIVED. GIVEN WITH THE SEED: THE CARDS: each row of YtpaeidaekhijlaaDoorRows.lean that lists a variable, with what it lists TIED to the program's text (the seventh form; the later family's looks); each row that meets fmt, with fmt's text TOLD by the authors' own Lean function (tested against real Go, not proved from fmt's source: count such statements apart). THE CARD IS WHAT COUNTS. Prove the row's statement (the work); the ties are given (YtpaeidaekhijlaaDoorTie.lean); close each card by the builder's one call (the guide's Derived/Test/ToyasCard.lean, 'card_holds'). Laid BY PROGRAM, IN A SANDBOX (cutbox-door.mjs). By AI agents, Wed Nov 11 2026. No macro, syntax, notation, axiom, sorry.
-/
import Derived.Test.YtpaeidaekhijlaaDoorRows
import GoSem.ClaimSeven
namespace Go.Proofs.YtpaeidaekhijlaaDoor
namespace Rows

/-- THE TIED CARD OF 'sigillumlaw11.RunqTake'. -/
def runqTakeCard : Claim7 := { stood := { row := runqTakeRow, standIns := [], harness := (true, "b2de36d4a88e87318ebc96f9db7647633f2cd4a3088636dc9b5646d29f62db5f"), looks := true }, kinds := [], alts := [], laidByText := true, laidKinds := [.handle], laidTests := true, laidLooks := .later }
def RunqTakeCardSaid : Prop := Claim7.holds Tryd.pinned (.plain (OpenSpec.ofChange runqTakeSpec)) runqTakeCard

/-- THE TIED CARD OF 'sigillumlaw11.RunqPush'. -/
def runqPushCard : Claim7 := { stood := { row := runqPushRow, standIns := [], harness := (true, "b2de36d4a88e87318ebc96f9db7647633f2cd4a3088636dc9b5646d29f62db5f"), looks := true }, kinds := [], alts := [], laidByText := true, laidKinds := [.handle], laidTests := true, laidLooks := .later }
def RunqPushCardSaid : Prop := Claim7.holds Tryd.pinned (.plain (OpenSpec.ofChange runqPushSpec)) runqPushCard

/-- THE TIED CARD OF 'sigillumlaw11.RunqBack'. -/
def runqBackCard : Claim7 := { stood := { row := runqBackRow, standIns := [], harness := (true, "b2de36d4a88e87318ebc96f9db7647633f2cd4a3088636dc9b5646d29f62db5f"), looks := true }, kinds := [], alts := [], laidByText := true, laidKinds := [.handle], laidTests := true, laidLooks := .later }
def RunqBackCardSaid : Prop := Claim7.holds Tryd.pinned (.plain (OpenSpec.ofChange runqBackSpec)) runqBackCard

/-- THE SECOND FORM's CARD OF 'sigillumlaw11.RunqTake'. -/
def runqTakeUptoCard : Claim7 := { stood := { row := runqTakeUptoRow, standIns := [], harness := (true, "b2de36d4a88e87318ebc96f9db7647633f2cd4a3088636dc9b5646d29f62db5f"), looks := true }, kinds := [], alts := [], laidByText := true, laidKinds := [.handle], laidTests := true, laidLooks := .later }
def RunqTakeUptoCardSaid : Prop := Claim7.holds Tryd.pinned (.plain (OpenSpec.upto runqTakeSpec)) runqTakeUptoCard

/-- THE SECOND FORM's CARD OF 'sigillumlaw11.RunqPush'. -/
def runqPushUptoCard : Claim7 := { stood := { row := runqPushUptoRow, standIns := [], harness := (true, "b2de36d4a88e87318ebc96f9db7647633f2cd4a3088636dc9b5646d29f62db5f"), looks := true }, kinds := [], alts := [], laidByText := true, laidKinds := [.handle], laidTests := true, laidLooks := .later }
def RunqPushUptoCardSaid : Prop := Claim7.holds Tryd.pinned (.plain (OpenSpec.upto runqPushSpec)) runqPushUptoCard

/-- THE SECOND FORM's CARD OF 'sigillumlaw11.RunqBack'. -/
def runqBackUptoCard : Claim7 := { stood := { row := runqBackUptoRow, standIns := [], harness := (true, "b2de36d4a88e87318ebc96f9db7647633f2cd4a3088636dc9b5646d29f62db5f"), looks := true }, kinds := [], alts := [], laidByText := true, laidKinds := [.handle], laidTests := true, laidLooks := .later }
def RunqBackUptoCardSaid : Prop := Claim7.holds Tryd.pinned (.plain (OpenSpec.upto runqBackSpec)) runqBackUptoCard
end Rows
end Go.Proofs.YtpaeidaekhijlaaDoor
