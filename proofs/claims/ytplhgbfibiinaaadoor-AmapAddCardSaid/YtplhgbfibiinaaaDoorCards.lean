/-
  DERIVED. GIVEN WITH THE SEED: THE CARDS: each row of YtplhgbfibiinaaaDoorRows.lean that lists a variable, with what it lists TIED to the program's text (the seventh form; the later family's looks); each row that meets fmt, with fmt's text TOLD by the authors' own Lean function (tested against real Go, not proved from fmt's source: count such statements apart). THE CARD IS WHAT COUNTS. Prove the row's statement (the work); the ties are given (YtplhgbfibiinaaaDoorTie.lean); close each card by the builder's one call (the guide's Derived/Test/ToyasCard.lean, 'card_holds'). Laid BY PROGRAM, IN A SANDBOX (cutbox-door.mjs). By AI agents, Wed Nov 11 2026. No macro, syntax, notation, axiom, sorry.
-/
import Derived.Test.YtplhgbfibiinaaaDoorRows
import GoSem.ClaimSeven
namespace Go.Proofs.YtplhgbfibiinaaaDoor
namespace Rows

/-- THE TIED CARD OF 'sigillumlaw10.AmapAdd'. -/
def amapAddCard : Claim7 := { stood := { row := amapAddRow, standIns := [], harness := (true, "2422fad8528905ebeeeacb3814272b0840227070f0cceb53045eb2c2d50be5a8"), looks := true }, kinds := [], alts := [], laidByText := true, laidKinds := [.handle], laidTests := true, laidLooks := .later }
def AmapAddCardSaid : Prop := Claim7.holds Tryd.pinned (.plain (OpenSpec.ofChange amapAddSpec)) amapAddCard

/-- THE TIED CARD OF 'sigillumlaw10.AmapPieces'. -/
def amapPiecesCard : Claim7 := { stood := { row := amapPiecesRow, standIns := [], harness := (true, "2422fad8528905ebeeeacb3814272b0840227070f0cceb53045eb2c2d50be5a8"), looks := true }, kinds := [], alts := [], laidByText := true, laidKinds := [.handle], laidTests := true, laidLooks := .later }
def AmapPiecesCardSaid : Prop := Claim7.holds Tryd.pinned (.plain (OpenSpec.ofChange amapPiecesSpec)) amapPiecesCard

/-- THE TIED CARD OF 'sigillumlaw10.AmapBounds'. -/
def amapBoundsCard : Claim7 := { stood := { row := amapBoundsRow, standIns := [], harness := (true, "2422fad8528905ebeeeacb3814272b0840227070f0cceb53045eb2c2d50be5a8"), looks := true }, kinds := [], alts := [], laidByText := true, laidKinds := [.handle], laidTests := true, laidLooks := .later }
def AmapBoundsCardSaid : Prop := Claim7.holds Tryd.pinned (.plain (OpenSpec.ofChange amapBoundsSpec)) amapBoundsCard

/-- THE TIED CARD OF 'sigillumlaw10.AmapOrder'. -/
def amapOrderCard : Claim7 := { stood := { row := amapOrderRow, standIns := [], harness := (true, "2422fad8528905ebeeeacb3814272b0840227070f0cceb53045eb2c2d50be5a8"), looks := true }, kinds := [], alts := [], laidByText := true, laidKinds := [.handle], laidTests := true, laidLooks := .later }
def AmapOrderCardSaid : Prop := Claim7.holds Tryd.pinned (.plain (OpenSpec.ofChange amapOrderSpec)) amapOrderCard

/-- THE TIED CARD OF 'sigillumlaw10.AmapFind'. -/
def amapFindCard : Claim7 := { stood := { row := amapFindRow, standIns := [], harness := (true, "2422fad8528905ebeeeacb3814272b0840227070f0cceb53045eb2c2d50be5a8"), looks := true }, kinds := [], alts := [], laidByText := true, laidKinds := [.handle], laidTests := true, laidLooks := .later }
def AmapFindCardSaid : Prop := Claim7.holds Tryd.pinned (.plain (OpenSpec.ofChange amapFindSpec)) amapFindCard

/-- THE SECOND FORM's CARD OF 'sigillumlaw10.AmapAdd'. -/
def amapAddUptoCard : Claim7 := { stood := { row := amapAddUptoRow, standIns := [], harness := (true, "2422fad8528905ebeeeacb3814272b0840227070f0cceb53045eb2c2d50be5a8"), looks := true }, kinds := [], alts := [], laidByText := true, laidKinds := [.handle], laidTests := true, laidLooks := .later }
def AmapAddUptoCardSaid : Prop := Claim7.holds Tryd.pinned (.plain (OpenSpec.upto amapAddSpec)) amapAddUptoCard

/-- THE SECOND FORM's CARD OF 'sigillumlaw10.AmapPieces'. -/
def amapPiecesUptoCard : Claim7 := { stood := { row := amapPiecesUptoRow, standIns := [], harness := (true, "2422fad8528905ebeeeacb3814272b0840227070f0cceb53045eb2c2d50be5a8"), looks := true }, kinds := [], alts := [], laidByText := true, laidKinds := [.handle], laidTests := true, laidLooks := .later }
def AmapPiecesUptoCardSaid : Prop := Claim7.holds Tryd.pinned (.plain (OpenSpec.upto amapPiecesSpec)) amapPiecesUptoCard

/-- THE SECOND FORM's CARD OF 'sigillumlaw10.AmapBounds'. -/
def amapBoundsUptoCard : Claim7 := { stood := { row := amapBoundsUptoRow, standIns := [], harness := (true, "2422fad8528905ebeeeacb3814272b0840227070f0cceb53045eb2c2d50be5a8"), looks := true }, kinds := [], alts := [], laidByText := true, laidKinds := [.handle], laidTests := true, laidLooks := .later }
def AmapBoundsUptoCardSaid : Prop := Claim7.holds Tryd.pinned (.plain (OpenSpec.upto amapBoundsSpec)) amapBoundsUptoCard

/-- THE SECOND FORM's CARD OF 'sigillumlaw10.AmapOrder'. -/
def amapOrderUptoCard : Claim7 := { stood := { row := amapOrderUptoRow, standIns := [], harness := (true, "2422fad8528905ebeeeacb3814272b0840227070f0cceb53045eb2c2d50be5a8"), looks := true }, kinds := [], alts := [], laidByText := true, laidKinds := [.handle], laidTests := true, laidLooks := .later }
def AmapOrderUptoCardSaid : Prop := Claim7.holds Tryd.pinned (.plain (OpenSpec.upto amapOrderSpec)) amapOrderUptoCard

/-- THE SECOND FORM's CARD OF 'sigillumlaw10.AmapFind'. -/
def amapFindUptoCard : Claim7 := { stood := { row := amapFindUptoRow, standIns := [], harness := (true, "2422fad8528905ebeeeacb3814272b0840227070f0cceb53045eb2c2d50be5a8"), looks := true }, kinds := [], alts := [], laidByText := true, laidKinds := [.handle], laidTests := true, laidLooks := .later }
def AmapFindUptoCardSaid : Prop := Claim7.holds Tryd.pinned (.plain (OpenSpec.upto amapFindSpec)) amapFindUptoCard
end Rows
end Go.Proofs.YtplhgbfibiinaaaDoor
