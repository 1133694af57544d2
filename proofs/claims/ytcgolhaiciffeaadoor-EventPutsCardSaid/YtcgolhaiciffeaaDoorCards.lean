/-
  DERIVED. GIVEN WITH THE SEED: THE CARDS: each row of YtcgolhaiciffeaaDoorRows.lean that lists a variable, with what it lists TIED to the program's text (the seventh form; the later family's looks); each row that meets fmt, with fmt's text TOLD by the authors' own Lean function (tested against real Go, not proved from fmt's source: count such statements apart). THE CARD IS WHAT COUNTS. Prove the row's statement (the work); the ties are given (YtcgolhaiciffeaaDoorTie.lean); close each card by the builder's one call (the guide's Derived/Test/ToyasCard.lean, 'card_holds'). Laid BY PROGRAM, IN A SANDBOX (cutbox-door.mjs). By AI agents, Wed Nov 11 2026. No macro, syntax, notation, axiom, sorry.
-/
import Derived.Test.YtcgolhaiciffeaaDoorRows
import GoSem.ClaimSeven
namespace Go.Proofs.YtcgolhaiciffeaaDoor
namespace Rows

/-- THE TIED CARD OF 'bucketlinelaw5.EventFits'. -/
def eventFitsCard : Claim7 := { stood := { row := eventFitsRow, standIns := [], harness := (true, "7ae8511260f088701d3f8f5ee6f734276203ba5a420c042085161c960b24c07a"), looks := false }, kinds := [], alts := [], laidByText := true, laidKinds := [.data, .pinned], laidTests := true, laidLooks := .later }
def EventFitsCardSaid : Prop := Claim7.holds Tryd.pinned (.plain (OpenSpec.ofChange eventFitsSpec)) eventFitsCard

/-- THE TIED CARD OF 'bucketlinelaw5.EventPuts'. -/
def eventPutsCard : Claim7 := { stood := { row := eventPutsRow, standIns := [], harness := (true, "7ae8511260f088701d3f8f5ee6f734276203ba5a420c042085161c960b24c07a"), looks := false }, kinds := [], alts := [], laidByText := true, laidKinds := [.data, .pinned], laidTests := true, laidLooks := .later }
def EventPutsCardSaid : Prop := Claim7.holds Tryd.pinned (.plain (OpenSpec.ofChange eventPutsSpec)) eventPutsCard

/-- THE TIED CARD OF 'bucketlinelaw5.EventSames'. -/
def eventSamesCard : Claim7 := { stood := { row := eventSamesRow, standIns := [], harness := (true, "7ae8511260f088701d3f8f5ee6f734276203ba5a420c042085161c960b24c07a"), looks := false }, kinds := [], alts := [], laidByText := true, laidKinds := [.data, .pinned], laidTests := true, laidLooks := .later }
def EventSamesCardSaid : Prop := Claim7.holds Tryd.pinned (.plain (OpenSpec.ofChange eventSamesSpec)) eventSamesCard

/-- THE TIED CARD OF 'bucketlinelaw5.EventOnce'. -/
def eventOnceCard : Claim7 := { stood := { row := eventOnceRow, standIns := [], harness := (true, "7ae8511260f088701d3f8f5ee6f734276203ba5a420c042085161c960b24c07a"), looks := false }, kinds := [], alts := [], laidByText := true, laidKinds := [.data, .pinned], laidTests := true, laidLooks := .later }
def EventOnceCardSaid : Prop := Claim7.holds Tryd.pinned (.plain (OpenSpec.ofChange eventOnceSpec)) eventOnceCard

/-- THE TIED CARD OF 'bucketlinelaw5.EventRows'. -/
def eventRowsCard : Claim7 := { stood := { row := eventRowsRow, standIns := [], harness := (true, "7ae8511260f088701d3f8f5ee6f734276203ba5a420c042085161c960b24c07a"), looks := false }, kinds := [], alts := [], laidByText := true, laidKinds := [.data, .pinned], laidTests := true, laidLooks := .later }
def EventRowsCardSaid : Prop := Claim7.holds Tryd.pinned (.plain (OpenSpec.ofChange eventRowsSpec)) eventRowsCard

/-- THE TIED CARD OF 'bucketlinelaw5.EventBack'. -/
def eventBackCard : Claim7 := { stood := { row := eventBackRow, standIns := [], harness := (true, "7ae8511260f088701d3f8f5ee6f734276203ba5a420c042085161c960b24c07a"), looks := false }, kinds := [], alts := [], laidByText := true, laidKinds := [.data, .pinned], laidTests := true, laidLooks := .later }
def EventBackCardSaid : Prop := Claim7.holds Tryd.pinned (.plain (OpenSpec.ofChange eventBackSpec)) eventBackCard

/-- THE SECOND FORM's CARD OF 'bucketlinelaw5.EventFits'. -/
def eventFitsUptoCard : Claim7 := { stood := { row := eventFitsUptoRow, standIns := [], harness := (true, "7ae8511260f088701d3f8f5ee6f734276203ba5a420c042085161c960b24c07a"), looks := false }, kinds := [], alts := [], laidByText := true, laidKinds := [.data, .pinned], laidTests := true, laidLooks := .later }
def EventFitsUptoCardSaid : Prop := Claim7.holds Tryd.pinned (.plain (OpenSpec.upto eventFitsSpec)) eventFitsUptoCard

/-- THE SECOND FORM's CARD OF 'bucketlinelaw5.EventPuts'. -/
def eventPutsUptoCard : Claim7 := { stood := { row := eventPutsUptoRow, standIns := [], harness := (true, "7ae8511260f088701d3f8f5ee6f734276203ba5a420c042085161c960b24c07a"), looks := false }, kinds := [], alts := [], laidByText := true, laidKinds := [.data, .pinned], laidTests := true, laidLooks := .later }
def EventPutsUptoCardSaid : Prop := Claim7.holds Tryd.pinned (.plain (OpenSpec.upto eventPutsSpec)) eventPutsUptoCard

/-- THE SECOND FORM's CARD OF 'bucketlinelaw5.EventSames'. -/
def eventSamesUptoCard : Claim7 := { stood := { row := eventSamesUptoRow, standIns := [], harness := (true, "7ae8511260f088701d3f8f5ee6f734276203ba5a420c042085161c960b24c07a"), looks := false }, kinds := [], alts := [], laidByText := true, laidKinds := [.data, .pinned], laidTests := true, laidLooks := .later }
def EventSamesUptoCardSaid : Prop := Claim7.holds Tryd.pinned (.plain (OpenSpec.upto eventSamesSpec)) eventSamesUptoCard

/-- THE SECOND FORM's CARD OF 'bucketlinelaw5.EventOnce'. -/
def eventOnceUptoCard : Claim7 := { stood := { row := eventOnceUptoRow, standIns := [], harness := (true, "7ae8511260f088701d3f8f5ee6f734276203ba5a420c042085161c960b24c07a"), looks := false }, kinds := [], alts := [], laidByText := true, laidKinds := [.data, .pinned], laidTests := true, laidLooks := .later }
def EventOnceUptoCardSaid : Prop := Claim7.holds Tryd.pinned (.plain (OpenSpec.upto eventOnceSpec)) eventOnceUptoCard

/-- THE SECOND FORM's CARD OF 'bucketlinelaw5.EventRows'. -/
def eventRowsUptoCard : Claim7 := { stood := { row := eventRowsUptoRow, standIns := [], harness := (true, "7ae8511260f088701d3f8f5ee6f734276203ba5a420c042085161c960b24c07a"), looks := false }, kinds := [], alts := [], laidByText := true, laidKinds := [.data, .pinned], laidTests := true, laidLooks := .later }
def EventRowsUptoCardSaid : Prop := Claim7.holds Tryd.pinned (.plain (OpenSpec.upto eventRowsSpec)) eventRowsUptoCard

/-- THE SECOND FORM's CARD OF 'bucketlinelaw5.EventBack'. -/
def eventBackUptoCard : Claim7 := { stood := { row := eventBackUptoRow, standIns := [], harness := (true, "7ae8511260f088701d3f8f5ee6f734276203ba5a420c042085161c960b24c07a"), looks := false }, kinds := [], alts := [], laidByText := true, laidKinds := [.data, .pinned], laidTests := true, laidLooks := .later }
def EventBackUptoCardSaid : Prop := Claim7.holds Tryd.pinned (.plain (OpenSpec.upto eventBackSpec)) eventBackUptoCard
end Rows
end Go.Proofs.YtcgolhaiciffeaaDoor
