/-
  DERIVED. GIVEN WITH THE SEED: THE CARDS: each row of YtljcllaploopaaaDoorRows.lean that lists a variable, with what it lists TIED to the program's text (the seventh form; the later family's looks); each row that meets fmt, with fmt's text TOLD by the authors' own Lean function (tested against real Go, not proved from fmt's source: count such statements apart). THE CARD IS WHAT COUNTS. Prove the row's statement (the work); the ties are given (YtljcllaploopaaaDoorTie.lean); close each card by the builder's one call (the guide's Derived/Test/ToyasCard.lean, 'card_holds'). Laid BY PROGRAM, IN A SANDBOX (cutbox-door.mjs). By AI agents, Wed Nov 11 2026. No macro, syntax, notation, axiom, sorry.
-/
import Derived.Test.YtljcllaploopaaaDoorRows
import GoSem.ClaimSeven
namespace Go.Proofs.YtljcllaploopaaaDoor
namespace Rows

/-- THE TIED CARD OF 'sigillumlaw22.ServedScript'. -/
def servedScriptCard : Claim7 := { stood := { row := servedScriptRow, standIns := [], harness := (true, "e68b8afc77c17d7b99221da3bea81057b285ee2d765451cc5f42c2ff8f312e42"), looks := true }, kinds := [], alts := [], laidByText := true, laidKinds := [.handle], laidTests := true, laidLooks := .later }
def ServedScriptCardSaid : Prop := Claim7.holds Tryd.pinned (.plain (OpenSpec.ofChange servedScriptSpec)) servedScriptCard

/-- THE TIED CARD OF 'sigillumlaw22.ServedFull'. -/
def servedFullCard : Claim7 := { stood := { row := servedFullRow, standIns := [], harness := (true, "e68b8afc77c17d7b99221da3bea81057b285ee2d765451cc5f42c2ff8f312e42"), looks := true }, kinds := [], alts := [], laidByText := true, laidKinds := [.handle], laidTests := true, laidLooks := .later }
def ServedFullCardSaid : Prop := Claim7.holds Tryd.pinned (.plain (OpenSpec.ofChange servedFullSpec)) servedFullCard

/-- THE SECOND FORM's CARD OF 'sigillumlaw22.ServedScript'. -/
def servedScriptUptoCard : Claim7 := { stood := { row := servedScriptUptoRow, standIns := [], harness := (true, "e68b8afc77c17d7b99221da3bea81057b285ee2d765451cc5f42c2ff8f312e42"), looks := true }, kinds := [], alts := [], laidByText := true, laidKinds := [.handle], laidTests := true, laidLooks := .later }
def ServedScriptUptoCardSaid : Prop := Claim7.holds Tryd.pinned (.plain (OpenSpec.upto servedScriptSpec)) servedScriptUptoCard

/-- THE SECOND FORM's CARD OF 'sigillumlaw22.ServedFull'. -/
def servedFullUptoCard : Claim7 := { stood := { row := servedFullUptoRow, standIns := [], harness := (true, "e68b8afc77c17d7b99221da3bea81057b285ee2d765451cc5f42c2ff8f312e42"), looks := true }, kinds := [], alts := [], laidByText := true, laidKinds := [.handle], laidTests := true, laidLooks := .later }
def ServedFullUptoCardSaid : Prop := Claim7.holds Tryd.pinned (.plain (OpenSpec.upto servedFullSpec)) servedFullUptoCard
end Rows
end Go.Proofs.YtljcllaploopaaaDoor
