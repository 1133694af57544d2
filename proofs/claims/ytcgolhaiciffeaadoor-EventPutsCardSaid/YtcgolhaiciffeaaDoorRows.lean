/-
  NARROWER THAN 'FOR EVERY INPUT', by the rows' own cells (each row's printed sentence says how): EventFits: laid · EventPuts: laid · EventSames: laid · EventOnce: laid · EventRows: laid · EventBack: laid.
  DERIVED. THE GIVEN ROWS OF THIS SEAT. 6 by the template 'for every input the law returns true; each argument reads behind the call as it read before'; 0 by the template 'total and deterministic' (their statements: YtcgolhaiciffeaaDoorTotals.lean).
  GIVEN WITH THE SEED: the statements are not yours to turn. If you find one false, say at which input.
  Laid BY PROGRAM, IN A SANDBOX (cutbox-rows.mjs): the forced cells as the released guide's own fill.sh prints them over the translation 4bd6b2b1d1375db2… (all of the seat's roots in one cut). By AI agents, Wed Nov 11 2026. No macro, syntax, notation, axiom, sorry.
-/
import Derived.Test.YtcgolhaiciffeaaDoorChecked
import GoSem.PinnedTables
import GoSem.Claim
import GoSem.ClaimJoined
import GoSem.ClaimMapViews
import Derived.JoinedTies
import Derived.KernelRfl
namespace Go.Proofs.YtcgolhaiciffeaaDoor
/- THE CELL 'sum', in the pinned program and in every row, IS THE sha256 OF THE DUMP (.gsa) THAT YtcgolhaiciffeaaDoorProg.lean LOADS. Nothing in Lean hashes anything: it is a label: what it is worth is what the hold of that sum in a sandbox is worth. -/
noncomputable def Tryd.pinned : Pinned := { name := "ytcgolhaiciffeaadoor", sum := "4bd6b2b1d1375db2a4691e73a3b93b50c521f4cf4610ec29dc9fcfc615b2f920", checked := Tryd.checked }
namespace Rows
def none {H : Type} : Left H := { results := [], args := [] }

/- WHAT THE LISTED PACKAGE-LEVEL VARIABLES READ AS WHEN THE CALL BEGINS. Each datum BY PROGRAM (the guide's laid-datum.mjs) off the statement by which the dump's own 'gosem.cut.vars' lays the variable. In a bare row this is a premise. The card (YtcgolhaiciffeaaDoorCards.lean) ties it to the program's text. -/
def laid_unicode_utf8_acceptRanges {H : Type} : DataW H := .agg [.agg [.lit (.int .u8 128), .lit (.int .u8 191)], .agg [.lit (.int .u8 160), .lit (.int .u8 191)], .agg [.lit (.int .u8 128), .lit (.int .u8 159)], .agg [.lit (.int .u8 144), .lit (.int .u8 191)], .agg [.lit (.int .u8 128), .lit (.int .u8 143)], .agg [.lit (.int .u8 0), .lit (.int .u8 0)], .agg [.lit (.int .u8 0), .lit (.int .u8 0)], .agg [.lit (.int .u8 0), .lit (.int .u8 0)], .agg [.lit (.int .u8 0), .lit (.int .u8 0)], .agg [.lit (.int .u8 0), .lit (.int .u8 0)], .agg [.lit (.int .u8 0), .lit (.int .u8 0)], .agg [.lit (.int .u8 0), .lit (.int .u8 0)], .agg [.lit (.int .u8 0), .lit (.int .u8 0)], .agg [.lit (.int .u8 0), .lit (.int .u8 0)], .agg [.lit (.int .u8 0), .lit (.int .u8 0)], .agg [.lit (.int .u8 0), .lit (.int .u8 0)]]
/-- One of Go's own tables, pinned by name: the form's constant. -/
def laid_unicode_utf8_first : DataW Unit := Go.Pinned.utf8First

/-- 'bucketlinelaw5.EventFits': WHATEVER THE INPUT: true; the input reads as it did. -/
def eventFitsSpec : ChangeSpec := { name := "eventFits", fn := fun _ => fun
  | [d1, d2] => { results := [.lit (.bool true)], args := [d1, d2] }
  | _ => none }
def eventFitsRow : OpenClaim := { program := "ytcgolhaiciffeaadoor", sum := "4bd6b2b1d1375db2a4691e73a3b93b50c521f4cf4610ec29dc9fcfc615b2f920", func := "bucketline/bucketlinelaw5.EventFits", spec := "eventFits", unfollowed := true, recurses := true, named := ["unicode/utf8.first", "unicode/utf8.acceptRanges"], apart := false, laid := [("unicode/utf8.acceptRanges", laid_unicode_utf8_acceptRanges), ("unicode/utf8.first", laid_unicode_utf8_first)] }
def EventFitsSaid : Prop := eventFitsRow.holds Tryd.pinned (OpenSpec.ofChange eventFitsSpec)

/-- ITS FALSE NEIGHBOUR: 'it returns false'. Refute it at one input. -/
def eventFitsWrong : ChangeSpec := { name := "eventFits", fn := fun _ => fun
  | [d1, d2] => { results := [.lit (.bool false)], args := [d1, d2] }
  | _ => none }
def EventFitsWrongFalsely : Prop := eventFitsRow.holds Tryd.pinned (OpenSpec.ofChange eventFitsWrong)

/-- 'bucketlinelaw5.EventPuts': WHATEVER THE INPUT: true; the input reads as it did. -/
def eventPutsSpec : ChangeSpec := { name := "eventPuts", fn := fun _ => fun
  | [d1, d2] => { results := [.lit (.bool true)], args := [d1, d2] }
  | _ => none }
def eventPutsRow : OpenClaim := { program := "ytcgolhaiciffeaadoor", sum := "4bd6b2b1d1375db2a4691e73a3b93b50c521f4cf4610ec29dc9fcfc615b2f920", func := "bucketline/bucketlinelaw5.EventPuts", spec := "eventPuts", inPlace := ["internal/abi.NoEscape"], unfollowed := true, recurses := true, named := ["unicode/utf8.first", "unicode/utf8.acceptRanges"], apart := false, laid := [("unicode/utf8.acceptRanges", laid_unicode_utf8_acceptRanges), ("unicode/utf8.first", laid_unicode_utf8_first)] }
def EventPutsSaid : Prop := eventPutsRow.holds Tryd.pinned (OpenSpec.ofChange eventPutsSpec)

/-- ITS FALSE NEIGHBOUR: 'it returns false'. Refute it at one input. -/
def eventPutsWrong : ChangeSpec := { name := "eventPuts", fn := fun _ => fun
  | [d1, d2] => { results := [.lit (.bool false)], args := [d1, d2] }
  | _ => none }
def EventPutsWrongFalsely : Prop := eventPutsRow.holds Tryd.pinned (OpenSpec.ofChange eventPutsWrong)

/-- 'bucketlinelaw5.EventSames': WHATEVER THE INPUT: true; the input reads as it did. -/
def eventSamesSpec : ChangeSpec := { name := "eventSames", fn := fun _ => fun
  | [d1, d2] => { results := [.lit (.bool true)], args := [d1, d2] }
  | _ => none }
def eventSamesRow : OpenClaim := { program := "ytcgolhaiciffeaadoor", sum := "4bd6b2b1d1375db2a4691e73a3b93b50c521f4cf4610ec29dc9fcfc615b2f920", func := "bucketline/bucketlinelaw5.EventSames", spec := "eventSames", inPlace := ["internal/abi.NoEscape"], unfollowed := true, recurses := true, named := ["unicode/utf8.first", "unicode/utf8.acceptRanges"], apart := false, laid := [("unicode/utf8.acceptRanges", laid_unicode_utf8_acceptRanges), ("unicode/utf8.first", laid_unicode_utf8_first)] }
def EventSamesSaid : Prop := eventSamesRow.holds Tryd.pinned (OpenSpec.ofChange eventSamesSpec)

/-- ITS FALSE NEIGHBOUR: 'it returns false'. Refute it at one input. -/
def eventSamesWrong : ChangeSpec := { name := "eventSames", fn := fun _ => fun
  | [d1, d2] => { results := [.lit (.bool false)], args := [d1, d2] }
  | _ => none }
def EventSamesWrongFalsely : Prop := eventSamesRow.holds Tryd.pinned (OpenSpec.ofChange eventSamesWrong)

/-- 'bucketlinelaw5.EventOnce': WHATEVER THE INPUT: true; the input reads as it did. -/
def eventOnceSpec : ChangeSpec := { name := "eventOnce", fn := fun _ => fun
  | [d] => { results := [.lit (.bool true)], args := [d] }
  | _ => none }
def eventOnceRow : OpenClaim := { program := "ytcgolhaiciffeaadoor", sum := "4bd6b2b1d1375db2a4691e73a3b93b50c521f4cf4610ec29dc9fcfc615b2f920", func := "bucketline/bucketlinelaw5.EventOnce", spec := "eventOnce", inPlace := ["internal/abi.NoEscape"], unfollowed := true, recurses := true, named := ["unicode/utf8.first", "unicode/utf8.acceptRanges"], apart := false, laid := [("unicode/utf8.acceptRanges", laid_unicode_utf8_acceptRanges), ("unicode/utf8.first", laid_unicode_utf8_first)] }
def EventOnceSaid : Prop := eventOnceRow.holds Tryd.pinned (OpenSpec.ofChange eventOnceSpec)

/-- ITS FALSE NEIGHBOUR: 'it returns false'. Refute it at one input. -/
def eventOnceWrong : ChangeSpec := { name := "eventOnce", fn := fun _ => fun
  | [d] => { results := [.lit (.bool false)], args := [d] }
  | _ => none }
def EventOnceWrongFalsely : Prop := eventOnceRow.holds Tryd.pinned (OpenSpec.ofChange eventOnceWrong)

/-- 'bucketlinelaw5.EventRows': WHATEVER THE INPUT: true; the input reads as it did. -/
def eventRowsSpec : ChangeSpec := { name := "eventRows", fn := fun _ => fun
  | [d] => { results := [.lit (.bool true)], args := [d] }
  | _ => none }
def eventRowsRow : OpenClaim := { program := "ytcgolhaiciffeaadoor", sum := "4bd6b2b1d1375db2a4691e73a3b93b50c521f4cf4610ec29dc9fcfc615b2f920", func := "bucketline/bucketlinelaw5.EventRows", spec := "eventRows", inPlace := ["internal/abi.NoEscape"], unfollowed := true, recurses := true, named := ["unicode/utf8.first", "unicode/utf8.acceptRanges"], apart := false, laid := [("unicode/utf8.acceptRanges", laid_unicode_utf8_acceptRanges), ("unicode/utf8.first", laid_unicode_utf8_first)] }
def EventRowsSaid : Prop := eventRowsRow.holds Tryd.pinned (OpenSpec.ofChange eventRowsSpec)

/-- ITS FALSE NEIGHBOUR: 'it returns false'. Refute it at one input. -/
def eventRowsWrong : ChangeSpec := { name := "eventRows", fn := fun _ => fun
  | [d] => { results := [.lit (.bool false)], args := [d] }
  | _ => none }
def EventRowsWrongFalsely : Prop := eventRowsRow.holds Tryd.pinned (OpenSpec.ofChange eventRowsWrong)

/-- 'bucketlinelaw5.EventBack': WHATEVER THE INPUT: true; the input reads as it did. -/
def eventBackSpec : ChangeSpec := { name := "eventBack", fn := fun _ => fun
  | [d1, d2, d3] => { results := [.lit (.bool true)], args := [d1, d2, d3] }
  | _ => none }
def eventBackRow : OpenClaim := { program := "ytcgolhaiciffeaadoor", sum := "4bd6b2b1d1375db2a4691e73a3b93b50c521f4cf4610ec29dc9fcfc615b2f920", func := "bucketline/bucketlinelaw5.EventBack", spec := "eventBack", inPlace := ["internal/abi.NoEscape"], unfollowed := true, recurses := true, named := ["unicode/utf8.first", "unicode/utf8.acceptRanges"], apart := false, laid := [("unicode/utf8.acceptRanges", laid_unicode_utf8_acceptRanges), ("unicode/utf8.first", laid_unicode_utf8_first)] }
def EventBackSaid : Prop := eventBackRow.holds Tryd.pinned (OpenSpec.ofChange eventBackSpec)

/-- ITS FALSE NEIGHBOUR: 'it returns false'. Refute it at one input. -/
def eventBackWrong : ChangeSpec := { name := "eventBack", fn := fun _ => fun
  | [d1, d2, d3] => { results := [.lit (.bool false)], args := [d1, d2, d3] }
  | _ => none }
def EventBackWrongFalsely : Prop := eventBackRow.holds Tryd.pinned (OpenSpec.ofChange eventBackWrong)

/- THE SECOND FORM. 'bulk': how many values and letters a reading holds, each counted each time it is reached (what is shared counts as often as it is met; a slice's spare places count too). A statement '..UptoSaid' is the law's where the arguments, and the package variables that the reading takes, are together of bulk at most 1048576: NARROWER than '..Said'. Prove '..Said' where nothing that the law and all that it calls make is longer than what came in: it says more and counts as full. Else prove '..UptoSaid'. A law counts once. -/
mutual
def uptoBulk {H : Type} : DataW H → Nat
  | .lit (.string bytes) => bytes.length + 1
  | .lit _ => 1
  | .nil => 1
  | .ptr d => uptoBulk d + 1
  | .slice elems spare => uptoBulkAll elems + uptoBulkAll spare + 1
  | .agg parts => uptoBulkAll parts + 1
  | .iface _ d => uptoBulk d + 1
  | .map entries => uptoBulkEntries entries + 1
  | .held _ => 1
def uptoBulkAll {H : Type} : List (DataW H) → Nat
  | [] => 0
  | d :: r => uptoBulk d + uptoBulkAll r
def uptoBulkEntries {H : Type} : List (Lit × DataW H) → Nat
  | [] => 0
  | x :: r => uptoBulkEntry x + uptoBulkEntries r
def uptoBulkEntry {H : Type} : Lit × DataW H → Nat
  | (.string bytes, d) => bytes.length + uptoBulk d + 1
  | (_, d) => uptoBulk d + 1
 end
def uptoSmall : (H : Type) → List (DataW H) → Bool := fun _ ds => decide (uptoBulkAll ds ≤ 1048576)
def OpenSpec.upto (s : _root_.Go.ChangeSpec) : _root_.Go.OpenSpec := { _root_.Go.OpenSpec.ofChange s with cond := some uptoSmall }

/-- 'bucketlinelaw5.EventFits', WHERE WHAT IT READS IS OF BULK AT MOST 1048576: true; the input reads as it did. -/
def eventFitsUptoRow : OpenClaim := { program := "ytcgolhaiciffeaadoor", sum := "4bd6b2b1d1375db2a4691e73a3b93b50c521f4cf4610ec29dc9fcfc615b2f920", func := "bucketline/bucketlinelaw5.EventFits", spec := "eventFits", unfollowed := true, recurses := true, named := ["unicode/utf8.first", "unicode/utf8.acceptRanges"], apart := false, laid := [("unicode/utf8.acceptRanges", laid_unicode_utf8_acceptRanges), ("unicode/utf8.first", laid_unicode_utf8_first)], narrowed := true }
def EventFitsUptoSaid : Prop := eventFitsUptoRow.holds Tryd.pinned (OpenSpec.upto eventFitsSpec)

/-- 'bucketlinelaw5.EventPuts', WHERE WHAT IT READS IS OF BULK AT MOST 1048576: true; the input reads as it did. -/
def eventPutsUptoRow : OpenClaim := { program := "ytcgolhaiciffeaadoor", sum := "4bd6b2b1d1375db2a4691e73a3b93b50c521f4cf4610ec29dc9fcfc615b2f920", func := "bucketline/bucketlinelaw5.EventPuts", spec := "eventPuts", inPlace := ["internal/abi.NoEscape"], unfollowed := true, recurses := true, named := ["unicode/utf8.first", "unicode/utf8.acceptRanges"], apart := false, laid := [("unicode/utf8.acceptRanges", laid_unicode_utf8_acceptRanges), ("unicode/utf8.first", laid_unicode_utf8_first)], narrowed := true }
def EventPutsUptoSaid : Prop := eventPutsUptoRow.holds Tryd.pinned (OpenSpec.upto eventPutsSpec)

/-- 'bucketlinelaw5.EventSames', WHERE WHAT IT READS IS OF BULK AT MOST 1048576: true; the input reads as it did. -/
def eventSamesUptoRow : OpenClaim := { program := "ytcgolhaiciffeaadoor", sum := "4bd6b2b1d1375db2a4691e73a3b93b50c521f4cf4610ec29dc9fcfc615b2f920", func := "bucketline/bucketlinelaw5.EventSames", spec := "eventSames", inPlace := ["internal/abi.NoEscape"], unfollowed := true, recurses := true, named := ["unicode/utf8.first", "unicode/utf8.acceptRanges"], apart := false, laid := [("unicode/utf8.acceptRanges", laid_unicode_utf8_acceptRanges), ("unicode/utf8.first", laid_unicode_utf8_first)], narrowed := true }
def EventSamesUptoSaid : Prop := eventSamesUptoRow.holds Tryd.pinned (OpenSpec.upto eventSamesSpec)

/-- 'bucketlinelaw5.EventOnce', WHERE WHAT IT READS IS OF BULK AT MOST 1048576: true; the input reads as it did. -/
def eventOnceUptoRow : OpenClaim := { program := "ytcgolhaiciffeaadoor", sum := "4bd6b2b1d1375db2a4691e73a3b93b50c521f4cf4610ec29dc9fcfc615b2f920", func := "bucketline/bucketlinelaw5.EventOnce", spec := "eventOnce", inPlace := ["internal/abi.NoEscape"], unfollowed := true, recurses := true, named := ["unicode/utf8.first", "unicode/utf8.acceptRanges"], apart := false, laid := [("unicode/utf8.acceptRanges", laid_unicode_utf8_acceptRanges), ("unicode/utf8.first", laid_unicode_utf8_first)], narrowed := true }
def EventOnceUptoSaid : Prop := eventOnceUptoRow.holds Tryd.pinned (OpenSpec.upto eventOnceSpec)

/-- 'bucketlinelaw5.EventRows', WHERE WHAT IT READS IS OF BULK AT MOST 1048576: true; the input reads as it did. -/
def eventRowsUptoRow : OpenClaim := { program := "ytcgolhaiciffeaadoor", sum := "4bd6b2b1d1375db2a4691e73a3b93b50c521f4cf4610ec29dc9fcfc615b2f920", func := "bucketline/bucketlinelaw5.EventRows", spec := "eventRows", inPlace := ["internal/abi.NoEscape"], unfollowed := true, recurses := true, named := ["unicode/utf8.first", "unicode/utf8.acceptRanges"], apart := false, laid := [("unicode/utf8.acceptRanges", laid_unicode_utf8_acceptRanges), ("unicode/utf8.first", laid_unicode_utf8_first)], narrowed := true }
def EventRowsUptoSaid : Prop := eventRowsUptoRow.holds Tryd.pinned (OpenSpec.upto eventRowsSpec)

/-- 'bucketlinelaw5.EventBack', WHERE WHAT IT READS IS OF BULK AT MOST 1048576: true; the input reads as it did. -/
def eventBackUptoRow : OpenClaim := { program := "ytcgolhaiciffeaadoor", sum := "4bd6b2b1d1375db2a4691e73a3b93b50c521f4cf4610ec29dc9fcfc615b2f920", func := "bucketline/bucketlinelaw5.EventBack", spec := "eventBack", inPlace := ["internal/abi.NoEscape"], unfollowed := true, recurses := true, named := ["unicode/utf8.first", "unicode/utf8.acceptRanges"], apart := false, laid := [("unicode/utf8.acceptRanges", laid_unicode_utf8_acceptRanges), ("unicode/utf8.first", laid_unicode_utf8_first)], narrowed := true }
def EventBackUptoSaid : Prop := eventBackUptoRow.holds Tryd.pinned (OpenSpec.upto eventBackSpec)

end Rows
end Go.Proofs.YtcgolhaiciffeaaDoor
