/-
  DERIVED. GIVEN WITH THE SEED: THE CARDS: each row of YtapgjjfndbfnpaaDoorRows.lean that lists a variable, with what it lists TIED to the program's text (the seventh form; the later family's looks); each row that meets fmt, with fmt's text TOLD by the authors' own Lean function (tested against real Go, not proved from fmt's source: count such statements apart). THE CARD IS WHAT COUNTS. Prove the row's statement (the work); the ties are given (YtapgjjfndbfnpaaDoorTie.lean); close each card by the builder's one call (the guide's Derived/Test/ToyasCard.lean, 'card_holds'). Laid BY PROGRAM, IN A SANDBOX (cutbox-door.mjs). By AI agents, Wed Nov 11 2026. No macro, syntax, notation, axiom, sorry.
-/
import Derived.Test.YtapgjjfndbfnpaaDoorRows
import GoSem.ClaimSeven
namespace Go.Proofs.YtapgjjfndbfnpaaDoor
namespace Rows

/-- THE TIED CARD OF 'bucketlinelaw22.ClientAsks'. -/
def clientAsksCard : Claim7 := { stood := { row := clientAsksRow, standIns := [], harness := (true, "10b4c19071222e04b65f7da64a273f13286f8b8f67bbc5ef24450158ac61ff28"), looks := true }, kinds := [], alts := [], laidByText := true, laidKinds := [.data, .pinned], laidTests := true, laidLooks := .later }
def ClientAsksCardSaid : Prop := Claim7.holds Tryd.pinned (.plain (OpenSpec.ofChange clientAsksSpec)) clientAsksCard

/-- THE TIED CARD OF 'bucketlinelaw22.ClientOnce'. -/
def clientOnceCard : Claim7 := { stood := { row := clientOnceRow, standIns := [], harness := (true, "10b4c19071222e04b65f7da64a273f13286f8b8f67bbc5ef24450158ac61ff28"), looks := true }, kinds := [], alts := [], laidByText := true, laidKinds := [.data, .pinned], laidTests := true, laidLooks := .later }
def ClientOnceCardSaid : Prop := Claim7.holds Tryd.pinned (.plain (OpenSpec.ofChange clientOnceSpec)) clientOnceCard

/-- THE TIED CARD OF 'bucketlinelaw22.ClientPlays'. -/
def clientPlaysCard : Claim7 := { stood := { row := clientPlaysRow, standIns := [], harness := (true, "10b4c19071222e04b65f7da64a273f13286f8b8f67bbc5ef24450158ac61ff28"), looks := true }, kinds := [], alts := [], laidByText := true, laidKinds := [.data, .pinned], laidTests := true, laidLooks := .later }
def ClientPlaysCardSaid : Prop := Claim7.holds Tryd.pinned (.plain (OpenSpec.ofChange clientPlaysSpec)) clientPlaysCard

/-- THE TIED CARD OF 'bucketlinelaw22.ClientRight'. -/
def clientRightCard : Claim7 := { stood := { row := clientRightRow, standIns := [], harness := (true, "10b4c19071222e04b65f7da64a273f13286f8b8f67bbc5ef24450158ac61ff28"), looks := true }, kinds := [], alts := [], laidByText := true, laidKinds := [.data, .pinned], laidTests := true, laidLooks := .later }
def ClientRightCardSaid : Prop := Claim7.holds Tryd.pinned (.plain (OpenSpec.ofChange clientRightSpec)) clientRightCard

/-- THE SECOND FORM's CARD OF 'bucketlinelaw22.ClientAsks'. -/
def clientAsksUptoCard : Claim7 := { stood := { row := clientAsksUptoRow, standIns := [], harness := (true, "10b4c19071222e04b65f7da64a273f13286f8b8f67bbc5ef24450158ac61ff28"), looks := true }, kinds := [], alts := [], laidByText := true, laidKinds := [.data, .pinned], laidTests := true, laidLooks := .later }
def ClientAsksUptoCardSaid : Prop := Claim7.holds Tryd.pinned (.plain (OpenSpec.upto clientAsksSpec)) clientAsksUptoCard

/-- THE SECOND FORM's CARD OF 'bucketlinelaw22.ClientOnce'. -/
def clientOnceUptoCard : Claim7 := { stood := { row := clientOnceUptoRow, standIns := [], harness := (true, "10b4c19071222e04b65f7da64a273f13286f8b8f67bbc5ef24450158ac61ff28"), looks := true }, kinds := [], alts := [], laidByText := true, laidKinds := [.data, .pinned], laidTests := true, laidLooks := .later }
def ClientOnceUptoCardSaid : Prop := Claim7.holds Tryd.pinned (.plain (OpenSpec.upto clientOnceSpec)) clientOnceUptoCard

/-- THE SECOND FORM's CARD OF 'bucketlinelaw22.ClientPlays'. -/
def clientPlaysUptoCard : Claim7 := { stood := { row := clientPlaysUptoRow, standIns := [], harness := (true, "10b4c19071222e04b65f7da64a273f13286f8b8f67bbc5ef24450158ac61ff28"), looks := true }, kinds := [], alts := [], laidByText := true, laidKinds := [.data, .pinned], laidTests := true, laidLooks := .later }
def ClientPlaysUptoCardSaid : Prop := Claim7.holds Tryd.pinned (.plain (OpenSpec.upto clientPlaysSpec)) clientPlaysUptoCard

/-- THE SECOND FORM's CARD OF 'bucketlinelaw22.ClientRight'. -/
def clientRightUptoCard : Claim7 := { stood := { row := clientRightUptoRow, standIns := [], harness := (true, "10b4c19071222e04b65f7da64a273f13286f8b8f67bbc5ef24450158ac61ff28"), looks := true }, kinds := [], alts := [], laidByText := true, laidKinds := [.data, .pinned], laidTests := true, laidLooks := .later }
def ClientRightUptoCardSaid : Prop := Claim7.holds Tryd.pinned (.plain (OpenSpec.upto clientRightSpec)) clientRightUptoCard
end Rows
end Go.Proofs.YtapgjjfndbfnpaaDoor
