/-
  DERIVED. GIVEN WITH THE SEED: THE CARDS: each row of YtflojipkgaocnaaGreatDoorRows.lean that lists a variable, with what it lists TIED to the program's text (the seventh form; the later family's looks); each row that meets fmt, with fmt's text TOLD by the authors' own Lean function (tested against real Go, not proved from fmt's source: count such statements apart). THE CARD IS WHAT COUNTS. Prove the row's statement (the work); the ties are given (YtflojipkgaocnaaGreatDoorTie.lean); close each card by the builder's one call (the guide's Derived/Test/ToyasCard.lean, 'card_holds'). Laid BY PROGRAM, IN A SANDBOX (cutbox-door.mjs). By AI agents, Wed Nov 11 2026. No macro, syntax, notation, axiom, sorry.
-/
import Derived.Test.YtflojipkgaocnaaGreatDoorRows
import GoSem.ClaimSeven
namespace Go.Proofs.YtflojipkgaocnaaGreatDoor
namespace Rows

/-- THE TIED CARD OF 'bucketlinelaw7.MessagePuts'. -/
def messagePutsCard : Claim7 := { stood := { row := messagePutsRow, standIns := [], harness := (true, "04a00e65e81b055e247b67cbfc4d60287faeb48289d0ee86bc9c2b87b270a710"), looks := true }, kinds := [], alts := [], laidByText := true, laidKinds := [.data, .pinned], laidTests := true, laidLooks := .later }
def MessagePutsCardSaid : Prop := Claim7.holds Tryz.pinned (.plain (OpenSpec.ofChange messagePutsSpec)) messagePutsCard

/-- THE SECOND FORM's CARD OF 'bucketlinelaw7.MessagePuts'. -/
def messagePutsUptoCard : Claim7 := { stood := { row := messagePutsUptoRow, standIns := [], harness := (true, "04a00e65e81b055e247b67cbfc4d60287faeb48289d0ee86bc9c2b87b270a710"), looks := true }, kinds := [], alts := [], laidByText := true, laidKinds := [.data, .pinned], laidTests := true, laidLooks := .later }
def MessagePutsUptoCardSaid : Prop := Claim7.holds Tryz.pinned (.plain (OpenSpec.upto messagePutsSpec)) messagePutsUptoCard
end Rows
end Go.Proofs.YtflojipkgaocnaaGreatDoor
