/-
  DERIVED. GIVEN WITH THE SEED: THE CARDS: each row of YtjdkcdeldmjdmaaDoorRows.lean that lists a variable, with what it lists TIED to the program's text (the seventh form; the later family's looks); each row that meets fmt, with fmt's text TOLD by the authors' own Lean function (tested against real Go, not proved from fmt's source: count such statements apart). THE CARD IS WHAT COUNTS. Prove the row's statement (the work); the ties are given (YtjdkcdeldmjdmaaDoorTie.lean); close each card by the builder's one call (the guide's Derived/Test/ToyasCard.lean, 'card_holds'). Laid BY PROGRAM, IN A SANDBOX (cutbox-door.mjs). By AI agents, Wed Nov 11 2026. No macro, syntax, notation, axiom, sorry.
-/
import Derived.Test.YtjdkcdeldmjdmaaDoorRows
import GoSem.ClaimSeven
namespace Go.Proofs.YtjdkcdeldmjdmaaDoor
namespace Rows

/-- THE TIED CARD OF 'sigillumlaw21.ClientTimes'. -/
def clientTimesCard : Claim7 := { stood := { row := clientTimesRow, standIns := [], harness := (true, "969d2af87d9734a298a5a71903d54d040549f96ddaed5d72d796da1e7d905121"), looks := true }, kinds := [], alts := [], laidByText := true, laidKinds := [.handle], laidTests := true, laidLooks := .later }
def ClientTimesCardSaid : Prop := Claim7.holds Tryd.pinned (.plain (OpenSpec.ofChange clientTimesSpec)) clientTimesCard

/-- THE TIED CARD OF 'sigillumlaw21.ClientOnce'. -/
def clientOnceCard : Claim7 := { stood := { row := clientOnceRow, standIns := [], harness := (true, "969d2af87d9734a298a5a71903d54d040549f96ddaed5d72d796da1e7d905121"), looks := true }, kinds := [], alts := [], laidByText := true, laidKinds := [.handle], laidTests := true, laidLooks := .later }
def ClientOnceCardSaid : Prop := Claim7.holds Tryd.pinned (.plain (OpenSpec.ofChange clientOnceSpec)) clientOnceCard

/-- THE TIED CARD OF 'sigillumlaw21.ClientFits'. -/
def clientFitsCard : Claim7 := { stood := { row := clientFitsRow, standIns := [], harness := (true, "969d2af87d9734a298a5a71903d54d040549f96ddaed5d72d796da1e7d905121"), looks := true }, kinds := [], alts := [], laidByText := true, laidKinds := [.handle], laidTests := true, laidLooks := .later }
def ClientFitsCardSaid : Prop := Claim7.holds Tryd.pinned (.plain (OpenSpec.ofChange clientFitsSpec)) clientFitsCard

/-- THE TIED CARD OF 'sigillumlaw21.ClientScript'. -/
def clientScriptCard : Claim7 := { stood := { row := clientScriptRow, standIns := [], harness := (true, "969d2af87d9734a298a5a71903d54d040549f96ddaed5d72d796da1e7d905121"), looks := true }, kinds := [], alts := [], laidByText := true, laidKinds := [.handle], laidTests := true, laidLooks := .later }
def ClientScriptCardSaid : Prop := Claim7.holds Tryd.pinned (.plain (OpenSpec.ofChange clientScriptSpec)) clientScriptCard

/-- THE SECOND FORM's CARD OF 'sigillumlaw21.ClientTimes'. -/
def clientTimesUptoCard : Claim7 := { stood := { row := clientTimesUptoRow, standIns := [], harness := (true, "969d2af87d9734a298a5a71903d54d040549f96ddaed5d72d796da1e7d905121"), looks := true }, kinds := [], alts := [], laidByText := true, laidKinds := [.handle], laidTests := true, laidLooks := .later }
def ClientTimesUptoCardSaid : Prop := Claim7.holds Tryd.pinned (.plain (OpenSpec.upto clientTimesSpec)) clientTimesUptoCard

/-- THE SECOND FORM's CARD OF 'sigillumlaw21.ClientOnce'. -/
def clientOnceUptoCard : Claim7 := { stood := { row := clientOnceUptoRow, standIns := [], harness := (true, "969d2af87d9734a298a5a71903d54d040549f96ddaed5d72d796da1e7d905121"), looks := true }, kinds := [], alts := [], laidByText := true, laidKinds := [.handle], laidTests := true, laidLooks := .later }
def ClientOnceUptoCardSaid : Prop := Claim7.holds Tryd.pinned (.plain (OpenSpec.upto clientOnceSpec)) clientOnceUptoCard

/-- THE SECOND FORM's CARD OF 'sigillumlaw21.ClientFits'. -/
def clientFitsUptoCard : Claim7 := { stood := { row := clientFitsUptoRow, standIns := [], harness := (true, "969d2af87d9734a298a5a71903d54d040549f96ddaed5d72d796da1e7d905121"), looks := true }, kinds := [], alts := [], laidByText := true, laidKinds := [.handle], laidTests := true, laidLooks := .later }
def ClientFitsUptoCardSaid : Prop := Claim7.holds Tryd.pinned (.plain (OpenSpec.upto clientFitsSpec)) clientFitsUptoCard

/-- THE SECOND FORM's CARD OF 'sigillumlaw21.ClientScript'. -/
def clientScriptUptoCard : Claim7 := { stood := { row := clientScriptUptoRow, standIns := [], harness := (true, "969d2af87d9734a298a5a71903d54d040549f96ddaed5d72d796da1e7d905121"), looks := true }, kinds := [], alts := [], laidByText := true, laidKinds := [.handle], laidTests := true, laidLooks := .later }
def ClientScriptUptoCardSaid : Prop := Claim7.holds Tryd.pinned (.plain (OpenSpec.upto clientScriptSpec)) clientScriptUptoCard
end Rows
end Go.Proofs.YtjdkcdeldmjdmaaDoor
