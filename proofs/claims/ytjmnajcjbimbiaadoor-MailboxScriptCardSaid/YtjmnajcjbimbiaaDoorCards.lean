/-
  DERIVED. GIVEN WITH THE SEED: THE CARDS: each row of YtjmnajcjbimbiaaDoorRows.lean that lists a variable, with what it lists TIED to the program's text (the seventh form; the later family's looks); each row that meets fmt, with fmt's text TOLD by the authors' own Lean function (tested against real Go, not proved from fmt's source: count such statements apart). THE CARD IS WHAT COUNTS. Prove the row's statement (the work); the ties are given (YtjmnajcjbimbiaaDoorTie.lean); close each card by the builder's one call (the guide's Derived/Test/ToyasCard.lean, 'card_holds'). Laid BY PROGRAM, IN A SANDBOX (cutbox-door.mjs). By AI agents, Wed Nov 11 2026. No macro, syntax, notation, axiom, sorry.
-/
import Derived.Test.YtjmnajcjbimbiaaDoorRows
import GoSem.ClaimSeven
namespace Go.Proofs.YtjmnajcjbimbiaaDoor
namespace Rows

/-- THE TIED CARD OF 'sigillumlaw19.MailboxOrder'. -/
def mailboxOrderCard : Claim7 := { stood := { row := mailboxOrderRow, standIns := [], harness := (true, "17797e487910468370829177e36f14e4797f5a59a2ad8bafb4152e38def9da9b"), looks := true }, kinds := [], alts := [], laidByText := true, laidKinds := [.handle], laidTests := true, laidLooks := .later }
def MailboxOrderCardSaid : Prop := Claim7.holds Tryd.pinned (.plain (OpenSpec.ofChange mailboxOrderSpec)) mailboxOrderCard

/-- THE TIED CARD OF 'sigillumlaw19.MailboxRoom'. -/
def mailboxRoomCard : Claim7 := { stood := { row := mailboxRoomRow, standIns := [], harness := (true, "17797e487910468370829177e36f14e4797f5a59a2ad8bafb4152e38def9da9b"), looks := true }, kinds := [], alts := [], laidByText := true, laidKinds := [.handle], laidTests := true, laidLooks := .later }
def MailboxRoomCardSaid : Prop := Claim7.holds Tryd.pinned (.plain (OpenSpec.ofChange mailboxRoomSpec)) mailboxRoomCard

/-- THE TIED CARD OF 'sigillumlaw19.MailboxOwn'. -/
def mailboxOwnCard : Claim7 := { stood := { row := mailboxOwnRow, standIns := [], harness := (true, "17797e487910468370829177e36f14e4797f5a59a2ad8bafb4152e38def9da9b"), looks := true }, kinds := [], alts := [], laidByText := true, laidKinds := [.handle], laidTests := true, laidLooks := .later }
def MailboxOwnCardSaid : Prop := Claim7.holds Tryd.pinned (.plain (OpenSpec.ofChange mailboxOwnSpec)) mailboxOwnCard

/-- THE TIED CARD OF 'sigillumlaw19.MailboxScript'. -/
def mailboxScriptCard : Claim7 := { stood := { row := mailboxScriptRow, standIns := [], harness := (true, "17797e487910468370829177e36f14e4797f5a59a2ad8bafb4152e38def9da9b"), looks := true }, kinds := [], alts := [], laidByText := true, laidKinds := [.handle], laidTests := true, laidLooks := .later }
def MailboxScriptCardSaid : Prop := Claim7.holds Tryd.pinned (.plain (OpenSpec.ofChange mailboxScriptSpec)) mailboxScriptCard

/-- THE SECOND FORM's CARD OF 'sigillumlaw19.MailboxOrder'. -/
def mailboxOrderUptoCard : Claim7 := { stood := { row := mailboxOrderUptoRow, standIns := [], harness := (true, "17797e487910468370829177e36f14e4797f5a59a2ad8bafb4152e38def9da9b"), looks := true }, kinds := [], alts := [], laidByText := true, laidKinds := [.handle], laidTests := true, laidLooks := .later }
def MailboxOrderUptoCardSaid : Prop := Claim7.holds Tryd.pinned (.plain (OpenSpec.upto mailboxOrderSpec)) mailboxOrderUptoCard

/-- THE SECOND FORM's CARD OF 'sigillumlaw19.MailboxRoom'. -/
def mailboxRoomUptoCard : Claim7 := { stood := { row := mailboxRoomUptoRow, standIns := [], harness := (true, "17797e487910468370829177e36f14e4797f5a59a2ad8bafb4152e38def9da9b"), looks := true }, kinds := [], alts := [], laidByText := true, laidKinds := [.handle], laidTests := true, laidLooks := .later }
def MailboxRoomUptoCardSaid : Prop := Claim7.holds Tryd.pinned (.plain (OpenSpec.upto mailboxRoomSpec)) mailboxRoomUptoCard

/-- THE SECOND FORM's CARD OF 'sigillumlaw19.MailboxOwn'. -/
def mailboxOwnUptoCard : Claim7 := { stood := { row := mailboxOwnUptoRow, standIns := [], harness := (true, "17797e487910468370829177e36f14e4797f5a59a2ad8bafb4152e38def9da9b"), looks := true }, kinds := [], alts := [], laidByText := true, laidKinds := [.handle], laidTests := true, laidLooks := .later }
def MailboxOwnUptoCardSaid : Prop := Claim7.holds Tryd.pinned (.plain (OpenSpec.upto mailboxOwnSpec)) mailboxOwnUptoCard

/-- THE SECOND FORM's CARD OF 'sigillumlaw19.MailboxScript'. -/
def mailboxScriptUptoCard : Claim7 := { stood := { row := mailboxScriptUptoRow, standIns := [], harness := (true, "17797e487910468370829177e36f14e4797f5a59a2ad8bafb4152e38def9da9b"), looks := true }, kinds := [], alts := [], laidByText := true, laidKinds := [.handle], laidTests := true, laidLooks := .later }
def MailboxScriptUptoCardSaid : Prop := Claim7.holds Tryd.pinned (.plain (OpenSpec.upto mailboxScriptSpec)) mailboxScriptUptoCard
end Rows
end Go.Proofs.YtjmnajcjbimbiaaDoor
