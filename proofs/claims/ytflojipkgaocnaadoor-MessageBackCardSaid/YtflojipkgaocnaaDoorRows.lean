/-
  NARROWER THAN 'FOR EVERY INPUT', by the rows' own cells (each row's printed sentence says how): MessageBack: laid · MessageOnce: laid · MessageKinds: laid · MessageEpochs: laid.
  DERIVED. THE GIVEN ROWS OF THIS SEAT. 4 by the template 'for every input the law returns true; each argument reads behind the call as it read before'; 0 by the template 'total and deterministic' (their statements: YtflojipkgaocnaaDoorTotals.lean).
  GIVEN WITH THE SEED: the statements are not yours to turn. If you find one false, say at which input.
  Laid BY PROGRAM, IN A SANDBOX (cutbox-rows.mjs): the forced cells as the released guide's own fill.sh prints them over the translation 12470fc8d3a1a92e… (all of the seat's roots in one cut). By AI agents, Wed Nov 11 2026. No macro, syntax, notation, axiom, sorry.
-/
import Derived.Test.YtflojipkgaocnaaDoorChecked
import GoSem.PinnedTables
import GoSem.Claim
import GoSem.ClaimJoined
import GoSem.ClaimMapViews
import Derived.JoinedTies
import Derived.KernelRfl
namespace Go.Proofs.YtflojipkgaocnaaDoor
/- THE CELL 'sum', in the pinned program and in every row, IS THE sha256 OF THE DUMP (.gsa) THAT YtflojipkgaocnaaDoorProg.lean LOADS. Nothing in Lean hashes anything: it is a label: what it is worth is what the hold of that sum in a sandbox is worth. -/
noncomputable def Tryd.pinned : Pinned := { name := "ytflojipkgaocnaadoor", sum := "12470fc8d3a1a92e2e60412ddcc6d5253473b5346eea874b430ba1dda7da5c8b", checked := Tryd.checked }
namespace Rows
def none {H : Type} : Left H := { results := [], args := [] }

/- WHAT THE LISTED PACKAGE-LEVEL VARIABLES READ AS WHEN THE CALL BEGINS. Each datum BY PROGRAM (the guide's laid-datum.mjs) off the statement by which the dump's own 'gosem.cut.vars' lays the variable. In a bare row this is a premise. The card (YtflojipkgaocnaaDoorCards.lean) ties it to the program's text. -/
def laid_unicode_utf8_acceptRanges {H : Type} : DataW H := .agg [.agg [.lit (.int .u8 128), .lit (.int .u8 191)], .agg [.lit (.int .u8 160), .lit (.int .u8 191)], .agg [.lit (.int .u8 128), .lit (.int .u8 159)], .agg [.lit (.int .u8 144), .lit (.int .u8 191)], .agg [.lit (.int .u8 128), .lit (.int .u8 143)], .agg [.lit (.int .u8 0), .lit (.int .u8 0)], .agg [.lit (.int .u8 0), .lit (.int .u8 0)], .agg [.lit (.int .u8 0), .lit (.int .u8 0)], .agg [.lit (.int .u8 0), .lit (.int .u8 0)], .agg [.lit (.int .u8 0), .lit (.int .u8 0)], .agg [.lit (.int .u8 0), .lit (.int .u8 0)], .agg [.lit (.int .u8 0), .lit (.int .u8 0)], .agg [.lit (.int .u8 0), .lit (.int .u8 0)], .agg [.lit (.int .u8 0), .lit (.int .u8 0)], .agg [.lit (.int .u8 0), .lit (.int .u8 0)], .agg [.lit (.int .u8 0), .lit (.int .u8 0)]]
/-- One of Go's own tables, pinned by name: the form's constant. -/
def laid_unicode_utf8_first : DataW Unit := Go.Pinned.utf8First

/-- 'bucketlinelaw7.MessageBack': WHATEVER THE INPUT: true; the input reads as it did. -/
def messageBackSpec : ChangeSpec := { name := "messageBack", fn := fun _ => fun
  | [d1, d2] => { results := [.lit (.bool true)], args := [d1, d2] }
  | _ => none }
def messageBackRow : OpenClaim := { program := "ytflojipkgaocnaadoor", sum := "12470fc8d3a1a92e2e60412ddcc6d5253473b5346eea874b430ba1dda7da5c8b", func := "bucketline/bucketlinelaw7.MessageBack", spec := "messageBack", inPlace := ["internal/abi.NoEscape"], unfollowed := true, recurses := true, named := ["unicode/utf8.first", "unicode/utf8.acceptRanges"], apart := false, laid := [("unicode/utf8.acceptRanges", laid_unicode_utf8_acceptRanges), ("unicode/utf8.first", laid_unicode_utf8_first)] }
def MessageBackSaid : Prop := messageBackRow.holds Tryd.pinned (OpenSpec.ofChange messageBackSpec)

/-- ITS FALSE NEIGHBOUR: 'it returns false'. Refute it at one input. -/
def messageBackWrong : ChangeSpec := { name := "messageBack", fn := fun _ => fun
  | [d1, d2] => { results := [.lit (.bool false)], args := [d1, d2] }
  | _ => none }
def MessageBackWrongFalsely : Prop := messageBackRow.holds Tryd.pinned (OpenSpec.ofChange messageBackWrong)

/-- 'bucketlinelaw7.MessageOnce': WHATEVER THE INPUT: true; the input reads as it did. -/
def messageOnceSpec : ChangeSpec := { name := "messageOnce", fn := fun _ => fun
  | [d] => { results := [.lit (.bool true)], args := [d] }
  | _ => none }
def messageOnceRow : OpenClaim := { program := "ytflojipkgaocnaadoor", sum := "12470fc8d3a1a92e2e60412ddcc6d5253473b5346eea874b430ba1dda7da5c8b", func := "bucketline/bucketlinelaw7.MessageOnce", spec := "messageOnce", inPlace := ["internal/abi.NoEscape"], unfollowed := true, recurses := true, named := ["unicode/utf8.first", "unicode/utf8.acceptRanges"], apart := false, laid := [("unicode/utf8.acceptRanges", laid_unicode_utf8_acceptRanges), ("unicode/utf8.first", laid_unicode_utf8_first)] }
def MessageOnceSaid : Prop := messageOnceRow.holds Tryd.pinned (OpenSpec.ofChange messageOnceSpec)

/-- ITS FALSE NEIGHBOUR: 'it returns false'. Refute it at one input. -/
def messageOnceWrong : ChangeSpec := { name := "messageOnce", fn := fun _ => fun
  | [d] => { results := [.lit (.bool false)], args := [d] }
  | _ => none }
def MessageOnceWrongFalsely : Prop := messageOnceRow.holds Tryd.pinned (OpenSpec.ofChange messageOnceWrong)

/-- 'bucketlinelaw7.MessageKinds': WHATEVER THE INPUT: true; the input reads as it did. -/
def messageKindsSpec : ChangeSpec := { name := "messageKinds", fn := fun _ => fun
  | [d1, d2] => { results := [.lit (.bool true)], args := [d1, d2] }
  | _ => none }
def messageKindsRow : OpenClaim := { program := "ytflojipkgaocnaadoor", sum := "12470fc8d3a1a92e2e60412ddcc6d5253473b5346eea874b430ba1dda7da5c8b", func := "bucketline/bucketlinelaw7.MessageKinds", spec := "messageKinds", inPlace := ["internal/abi.NoEscape"], unfollowed := true, recurses := true, named := ["unicode/utf8.first", "unicode/utf8.acceptRanges"], apart := false, laid := [("unicode/utf8.acceptRanges", laid_unicode_utf8_acceptRanges), ("unicode/utf8.first", laid_unicode_utf8_first)] }
def MessageKindsSaid : Prop := messageKindsRow.holds Tryd.pinned (OpenSpec.ofChange messageKindsSpec)

/-- ITS FALSE NEIGHBOUR: 'it returns false'. Refute it at one input. -/
def messageKindsWrong : ChangeSpec := { name := "messageKinds", fn := fun _ => fun
  | [d1, d2] => { results := [.lit (.bool false)], args := [d1, d2] }
  | _ => none }
def MessageKindsWrongFalsely : Prop := messageKindsRow.holds Tryd.pinned (OpenSpec.ofChange messageKindsWrong)

/-- 'bucketlinelaw7.MessageEpochs': WHATEVER THE INPUT: true; the input reads as it did. -/
def messageEpochsSpec : ChangeSpec := { name := "messageEpochs", fn := fun _ => fun
  | [d] => { results := [.lit (.bool true)], args := [d] }
  | _ => none }
def messageEpochsRow : OpenClaim := { program := "ytflojipkgaocnaadoor", sum := "12470fc8d3a1a92e2e60412ddcc6d5253473b5346eea874b430ba1dda7da5c8b", func := "bucketline/bucketlinelaw7.MessageEpochs", spec := "messageEpochs", inPlace := ["internal/abi.NoEscape"], unfollowed := true, recurses := true, named := ["unicode/utf8.first", "unicode/utf8.acceptRanges"], apart := false, laid := [("unicode/utf8.acceptRanges", laid_unicode_utf8_acceptRanges), ("unicode/utf8.first", laid_unicode_utf8_first)] }
def MessageEpochsSaid : Prop := messageEpochsRow.holds Tryd.pinned (OpenSpec.ofChange messageEpochsSpec)

/-- ITS FALSE NEIGHBOUR: 'it returns false'. Refute it at one input. -/
def messageEpochsWrong : ChangeSpec := { name := "messageEpochs", fn := fun _ => fun
  | [d] => { results := [.lit (.bool false)], args := [d] }
  | _ => none }
def MessageEpochsWrongFalsely : Prop := messageEpochsRow.holds Tryd.pinned (OpenSpec.ofChange messageEpochsWrong)

/- THE SECOND FORM. 'bulk': how many values and letters a reading holds, each counted each time it is reached (what is shared counts as often as it is met; a slice's spare places count too). A statement '..UptoSaid' is the law's where the arguments, and the package variables that the reading takes, are together of bulk at most 1048576: NARROWER than '..Said'. Prove '..Said' where nothing that the law and all that it calls make is longer than what came in: it says more and counts as full. Else prove '..UptoSaid'. A law counts once. -/
mutual
def uptoBulk {H : Type} : DataW H → Nat
  | .lit (.string bytes) => bytes.length + 1
  | .lit _ => 1
  | .nil => 1
  | .ptr d => uptoBulk d + 1
  | .slice elems spare => uptoBulkAll elems + uptoBulkAll spare + 1
  | .agg parts => uptoBulkAll parts + 1
  | .iface _ d => uptoBulk d + 1
  | .map entries => uptoBulkEntries entries + 1
  | .held _ => 1
def uptoBulkAll {H : Type} : List (DataW H) → Nat
  | [] => 0
  | d :: r => uptoBulk d + uptoBulkAll r
def uptoBulkEntries {H : Type} : List (Lit × DataW H) → Nat
  | [] => 0
  | x :: r => uptoBulkEntry x + uptoBulkEntries r
def uptoBulkEntry {H : Type} : Lit × DataW H → Nat
  | (.string bytes, d) => bytes.length + uptoBulk d + 1
  | (_, d) => uptoBulk d + 1
 end
def uptoSmall : (H : Type) → List (DataW H) → Bool := fun _ ds => decide (uptoBulkAll ds ≤ 1048576)
def OpenSpec.upto (s : _root_.Go.ChangeSpec) : _root_.Go.OpenSpec := { _root_.Go.OpenSpec.ofChange s with cond := some uptoSmall }

/-- 'bucketlinelaw7.MessageBack', WHERE WHAT IT READS IS OF BULK AT MOST 1048576: true; the input reads as it did. -/
def messageBackUptoRow : OpenClaim := { program := "ytflojipkgaocnaadoor", sum := "12470fc8d3a1a92e2e60412ddcc6d5253473b5346eea874b430ba1dda7da5c8b", func := "bucketline/bucketlinelaw7.MessageBack", spec := "messageBack", inPlace := ["internal/abi.NoEscape"], unfollowed := true, recurses := true, named := ["unicode/utf8.first", "unicode/utf8.acceptRanges"], apart := false, laid := [("unicode/utf8.acceptRanges", laid_unicode_utf8_acceptRanges), ("unicode/utf8.first", laid_unicode_utf8_first)], narrowed := true }
def MessageBackUptoSaid : Prop := messageBackUptoRow.holds Tryd.pinned (OpenSpec.upto messageBackSpec)

/-- 'bucketlinelaw7.MessageOnce', WHERE WHAT IT READS IS OF BULK AT MOST 1048576: true; the input reads as it did. -/
def messageOnceUptoRow : OpenClaim := { program := "ytflojipkgaocnaadoor", sum := "12470fc8d3a1a92e2e60412ddcc6d5253473b5346eea874b430ba1dda7da5c8b", func := "bucketline/bucketlinelaw7.MessageOnce", spec := "messageOnce", inPlace := ["internal/abi.NoEscape"], unfollowed := true, recurses := true, named := ["unicode/utf8.first", "unicode/utf8.acceptRanges"], apart := false, laid := [("unicode/utf8.acceptRanges", laid_unicode_utf8_acceptRanges), ("unicode/utf8.first", laid_unicode_utf8_first)], narrowed := true }
def MessageOnceUptoSaid : Prop := messageOnceUptoRow.holds Tryd.pinned (OpenSpec.upto messageOnceSpec)

/-- 'bucketlinelaw7.MessageKinds', WHERE WHAT IT READS IS OF BULK AT MOST 1048576: true; the input reads as it did. -/
def messageKindsUptoRow : OpenClaim := { program := "ytflojipkgaocnaadoor", sum := "12470fc8d3a1a92e2e60412ddcc6d5253473b5346eea874b430ba1dda7da5c8b", func := "bucketline/bucketlinelaw7.MessageKinds", spec := "messageKinds", inPlace := ["internal/abi.NoEscape"], unfollowed := true, recurses := true, named := ["unicode/utf8.first", "unicode/utf8.acceptRanges"], apart := false, laid := [("unicode/utf8.acceptRanges", laid_unicode_utf8_acceptRanges), ("unicode/utf8.first", laid_unicode_utf8_first)], narrowed := true }
def MessageKindsUptoSaid : Prop := messageKindsUptoRow.holds Tryd.pinned (OpenSpec.upto messageKindsSpec)

/-- 'bucketlinelaw7.MessageEpochs', WHERE WHAT IT READS IS OF BULK AT MOST 1048576: true; the input reads as it did. -/
def messageEpochsUptoRow : OpenClaim := { program := "ytflojipkgaocnaadoor", sum := "12470fc8d3a1a92e2e60412ddcc6d5253473b5346eea874b430ba1dda7da5c8b", func := "bucketline/bucketlinelaw7.MessageEpochs", spec := "messageEpochs", inPlace := ["internal/abi.NoEscape"], unfollowed := true, recurses := true, named := ["unicode/utf8.first", "unicode/utf8.acceptRanges"], apart := false, laid := [("unicode/utf8.acceptRanges", laid_unicode_utf8_acceptRanges), ("unicode/utf8.first", laid_unicode_utf8_first)], narrowed := true }
def MessageEpochsUptoSaid : Prop := messageEpochsUptoRow.holds Tryd.pinned (OpenSpec.upto messageEpochsSpec)

end Rows
end Go.Proofs.YtflojipkgaocnaaDoor
