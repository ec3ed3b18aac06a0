/-
  DERIVED. GIVEN WITH THE SEED: THE CARDS: each row of YtjgcdlkbgneldaaDoorRows.lean that lists a variable, with what it lists TIED to the program's text (the seventh form; the later family's looks); each row that meets fmt, with fmt's text TOLD by the authors' own Lean function (tested against real Go, not proved from fmt's source: count such statements apart). THE CARD IS WHAT COUNTS. Prove the row's statement (the work); the ties are given (YtjgcdlkbgneldaaDoorTie.lean); close each card by the builder's one call (the guide's Derived/Test/ToyasCard.lean, 'card_holds'). Laid BY PROGRAM, IN A SANDBOX (cutbox-door.mjs). By AI agents, Wed Nov 11 2026. No macro, syntax, notation, axiom, sorry.
-/
import Derived.Test.YtjgcdlkbgneldaaDoorRows
import GoSem.ClaimSeven
namespace Go.Proofs.YtjgcdlkbgneldaaDoor
namespace Rows

/-- THE TIED CARD OF 'sigillumlaw15.FragSplit'. -/
def fragSplitCard : Claim7 := { stood := { row := fragSplitRow, standIns := [], harness := (true, "1d9084e166ebc2a3c5d3e2b8fe83885c29a811dc0a7b0144bf3724d0dc4952bd"), looks := true }, kinds := [], alts := [], laidByText := true, laidKinds := [.handle], laidTests := true, laidLooks := .later }
def FragSplitCardSaid : Prop := Claim7.holds Tryd.pinned (.plain (OpenSpec.ofChange fragSplitSpec)) fragSplitCard

/-- THE TIED CARD OF 'sigillumlaw15.FragBack'. -/
def fragBackCard : Claim7 := { stood := { row := fragBackRow, standIns := [], harness := (true, "1d9084e166ebc2a3c5d3e2b8fe83885c29a811dc0a7b0144bf3724d0dc4952bd"), looks := true }, kinds := [], alts := [], laidByText := true, laidKinds := [.handle], laidTests := true, laidLooks := .later }
def FragBackCardSaid : Prop := Claim7.holds Tryd.pinned (.plain (OpenSpec.ofChange fragBackSpec)) fragBackCard

/-- THE SECOND FORM's CARD OF 'sigillumlaw15.FragSplit'. -/
def fragSplitUptoCard : Claim7 := { stood := { row := fragSplitUptoRow, standIns := [], harness := (true, "1d9084e166ebc2a3c5d3e2b8fe83885c29a811dc0a7b0144bf3724d0dc4952bd"), looks := true }, kinds := [], alts := [], laidByText := true, laidKinds := [.handle], laidTests := true, laidLooks := .later }
def FragSplitUptoCardSaid : Prop := Claim7.holds Tryd.pinned (.plain (OpenSpec.upto fragSplitSpec)) fragSplitUptoCard

/-- THE SECOND FORM's CARD OF 'sigillumlaw15.FragBack'. -/
def fragBackUptoCard : Claim7 := { stood := { row := fragBackUptoRow, standIns := [], harness := (true, "1d9084e166ebc2a3c5d3e2b8fe83885c29a811dc0a7b0144bf3724d0dc4952bd"), looks := true }, kinds := [], alts := [], laidByText := true, laidKinds := [.handle], laidTests := true, laidLooks := .later }
def FragBackUptoCardSaid : Prop := Claim7.holds Tryd.pinned (.plain (OpenSpec.upto fragBackSpec)) fragBackUptoCard
end Rows
end Go.Proofs.YtjgcdlkbgneldaaDoor
