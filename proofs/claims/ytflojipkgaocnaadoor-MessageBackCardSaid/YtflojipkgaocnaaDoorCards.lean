/-
  DERIVED. GIVEN WITH THE SEED: THE CARDS: each row of YtflojipkgaocnaaDoorRows.lean that lists a variable, with what it lists TIED to the program's text (the seventh form; the later family's looks); each row that meets fmt, with fmt's text TOLD by the authors' own Lean function (tested against real Go, not proved from fmt's source: count such statements apart). THE CARD IS WHAT COUNTS. Prove the row's statement (the work); the ties are given (YtflojipkgaocnaaDoorTie.lean); close each card by the builder's one call (the guide's Derived/Test/ToyasCard.lean, 'card_holds'). Laid BY PROGRAM, IN A SANDBOX (cutbox-door.mjs). By AI agents, Wed Nov 11 2026. No macro, syntax, notation, axiom, sorry.
-/
import Derived.Test.YtflojipkgaocnaaDoorRows
import GoSem.ClaimSeven
namespace Go.Proofs.YtflojipkgaocnaaDoor
namespace Rows

/-- THE TIED CARD OF 'bucketlinelaw7.MessageBack'. -/
def messageBackCard : Claim7 := { stood := { row := messageBackRow, standIns := [], harness := (true, "7b471df6cd316b64de3163f6511480afeba111dde577eda0ac58bb6c77d4471c"), looks := true }, kinds := [], alts := [], laidByText := true, laidKinds := [.data, .pinned], laidTests := true, laidLooks := .later }
def MessageBackCardSaid : Prop := Claim7.holds Tryd.pinned (.plain (OpenSpec.ofChange messageBackSpec)) messageBackCard

/-- THE TIED CARD OF 'bucketlinelaw7.MessageOnce'. -/
def messageOnceCard : Claim7 := { stood := { row := messageOnceRow, standIns := [], harness := (true, "7b471df6cd316b64de3163f6511480afeba111dde577eda0ac58bb6c77d4471c"), looks := true }, kinds := [], alts := [], laidByText := true, laidKinds := [.data, .pinned], laidTests := true, laidLooks := .later }
def MessageOnceCardSaid : Prop := Claim7.holds Tryd.pinned (.plain (OpenSpec.ofChange messageOnceSpec)) messageOnceCard

/-- THE TIED CARD OF 'bucketlinelaw7.MessageKinds'. -/
def messageKindsCard : Claim7 := { stood := { row := messageKindsRow, standIns := [], harness := (true, "7b471df6cd316b64de3163f6511480afeba111dde577eda0ac58bb6c77d4471c"), looks := true }, kinds := [], alts := [], laidByText := true, laidKinds := [.data, .pinned], laidTests := true, laidLooks := .later }
def MessageKindsCardSaid : Prop := Claim7.holds Tryd.pinned (.plain (OpenSpec.ofChange messageKindsSpec)) messageKindsCard

/-- THE TIED CARD OF 'bucketlinelaw7.MessageEpochs'. -/
def messageEpochsCard : Claim7 := { stood := { row := messageEpochsRow, standIns := [], harness := (true, "7b471df6cd316b64de3163f6511480afeba111dde577eda0ac58bb6c77d4471c"), looks := true }, kinds := [], alts := [], laidByText := true, laidKinds := [.data, .pinned], laidTests := true, laidLooks := .later }
def MessageEpochsCardSaid : Prop := Claim7.holds Tryd.pinned (.plain (OpenSpec.ofChange messageEpochsSpec)) messageEpochsCard

/-- THE SECOND FORM's CARD OF 'bucketlinelaw7.MessageBack'. -/
def messageBackUptoCard : Claim7 := { stood := { row := messageBackUptoRow, standIns := [], harness := (true, "7b471df6cd316b64de3163f6511480afeba111dde577eda0ac58bb6c77d4471c"), looks := true }, kinds := [], alts := [], laidByText := true, laidKinds := [.data, .pinned], laidTests := true, laidLooks := .later }
def MessageBackUptoCardSaid : Prop := Claim7.holds Tryd.pinned (.plain (OpenSpec.upto messageBackSpec)) messageBackUptoCard

/-- THE SECOND FORM's CARD OF 'bucketlinelaw7.MessageOnce'. -/
def messageOnceUptoCard : Claim7 := { stood := { row := messageOnceUptoRow, standIns := [], harness := (true, "7b471df6cd316b64de3163f6511480afeba111dde577eda0ac58bb6c77d4471c"), looks := true }, kinds := [], alts := [], laidByText := true, laidKinds := [.data, .pinned], laidTests := true, laidLooks := .later }
def MessageOnceUptoCardSaid : Prop := Claim7.holds Tryd.pinned (.plain (OpenSpec.upto messageOnceSpec)) messageOnceUptoCard

/-- THE SECOND FORM's CARD OF 'bucketlinelaw7.MessageKinds'. -/
def messageKindsUptoCard : Claim7 := { stood := { row := messageKindsUptoRow, standIns := [], harness := (true, "7b471df6cd316b64de3163f6511480afeba111dde577eda0ac58bb6c77d4471c"), looks := true }, kinds := [], alts := [], laidByText := true, laidKinds := [.data, .pinned], laidTests := true, laidLooks := .later }
def MessageKindsUptoCardSaid : Prop := Claim7.holds Tryd.pinned (.plain (OpenSpec.upto messageKindsSpec)) messageKindsUptoCard

/-- THE SECOND FORM's CARD OF 'bucketlinelaw7.MessageEpochs'. -/
def messageEpochsUptoCard : Claim7 := { stood := { row := messageEpochsUptoRow, standIns := [], harness := (true, "7b471df6cd316b64de3163f6511480afeba111dde577eda0ac58bb6c77d4471c"), looks := true }, kinds := [], alts := [], laidByText := true, laidKinds := [.data, .pinned], laidTests := true, laidLooks := .later }
def MessageEpochsUptoCardSaid : Prop := Claim7.holds Tryd.pinned (.plain (OpenSpec.upto messageEpochsSpec)) messageEpochsUptoCard
end Rows
end Go.Proofs.YtflojipkgaocnaaDoor
