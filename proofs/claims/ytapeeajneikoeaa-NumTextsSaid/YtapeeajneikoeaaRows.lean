/-
  No cell of these rows narrows 'for every input' (looked for: loops, veiled, ifaces, maps, wideKeys, modest, calm, conditions, laid).
  DERIVED. THE GIVEN ROWS OF THIS SEAT. 9 by the template 'for every input the law returns true; each argument reads behind the call as it read before'; 0 by the template 'total and deterministic' (their statements: YtapeeajneikoeaaTotals.lean).
  GIVEN WITH THE SEED: the statements are not yours to turn. If you find one false, say at which input.
  Laid BY PROGRAM, IN A SANDBOX (cutbox-rows.mjs): the forced cells as the released guide's own fill.sh prints them over the translation 683991f8bf498182… (all of the seat's roots in one cut). By AI agents, Wed Nov 11 2026. No macro, syntax, notation, axiom, sorry.
-/
import Derived.Test.YtapeeajneikoeaaChecked
import GoSem.Claim
import GoSem.ClaimJoined
import GoSem.ClaimMapViews
import Derived.JoinedTies
import Derived.KernelRfl
namespace Go.Proofs.Ytapeeajneikoeaa
/- THE CELL 'sum', in the pinned program and in every row, IS THE sha256 OF THE DUMP (.gsa) THAT YtapeeajneikoeaaProg.lean LOADS. Nothing in Lean hashes anything: it is a label: what it is worth is what the hold of that sum in a sandbox is worth. -/
noncomputable def Try.pinned : Pinned := { name := "ytapeeajneikoeaa", sum := "683991f8bf49818287c95b746b1a76a298cf643d633b2212b848c8b81f0a8ddc", checked := Try.checked }
namespace Rows
def none {H : Type} : Left H := { results := [], args := [] }

/-- 'bucketlinelaw3.CrcSums': WHATEVER THE INPUT: true; the input reads as it did. -/
def crcSumsSpec : ChangeSpec := { name := "crcSums", fn := fun _ => fun
  | [d1, d2] => { results := [.lit (.bool true)], args := [d1, d2] }
  | _ => none }
def crcSumsRow : OpenClaim := { program := "ytapeeajneikoeaa", sum := "683991f8bf49818287c95b746b1a76a298cf643d633b2212b848c8b81f0a8ddc", func := "bucketline/bucketlinelaw3.CrcSums", spec := "crcSums", apart := false }
def CrcSumsSaid : Prop := crcSumsRow.holds Try.pinned (OpenSpec.ofChange crcSumsSpec)

/-- ITS FALSE NEIGHBOUR: 'it returns false'. Refute it at one input. -/
def crcSumsWrong : ChangeSpec := { name := "crcSums", fn := fun _ => fun
  | [d1, d2] => { results := [.lit (.bool false)], args := [d1, d2] }
  | _ => none }
def CrcSumsWrongFalsely : Prop := crcSumsRow.holds Try.pinned (OpenSpec.ofChange crcSumsWrong)

/-- 'bucketlinelaw3.CrcJoins': WHATEVER THE INPUT: true; the input reads as it did. -/
def crcJoinsSpec : ChangeSpec := { name := "crcJoins", fn := fun _ => fun
  | [d1, d2, d3, d4] => { results := [.lit (.bool true)], args := [d1, d2, d3, d4] }
  | _ => none }
def crcJoinsRow : OpenClaim := { program := "ytapeeajneikoeaa", sum := "683991f8bf49818287c95b746b1a76a298cf643d633b2212b848c8b81f0a8ddc", func := "bucketline/bucketlinelaw3.CrcJoins", spec := "crcJoins", apart := false }
def CrcJoinsSaid : Prop := crcJoinsRow.holds Try.pinned (OpenSpec.ofChange crcJoinsSpec)

/-- ITS FALSE NEIGHBOUR: 'it returns false'. Refute it at one input. -/
def crcJoinsWrong : ChangeSpec := { name := "crcJoins", fn := fun _ => fun
  | [d1, d2, d3, d4] => { results := [.lit (.bool false)], args := [d1, d2, d3, d4] }
  | _ => none }
def CrcJoinsWrongFalsely : Prop := crcJoinsRow.holds Try.pinned (OpenSpec.ofChange crcJoinsWrong)

/-- 'bucketlinelaw3.CrcFinds': WHATEVER THE INPUT: true; the input reads as it did. -/
def crcFindsSpec : ChangeSpec := { name := "crcFinds", fn := fun _ => fun
  | [d1, d2, d3, d4] => { results := [.lit (.bool true)], args := [d1, d2, d3, d4] }
  | _ => none }
def crcFindsRow : OpenClaim := { program := "ytapeeajneikoeaa", sum := "683991f8bf49818287c95b746b1a76a298cf643d633b2212b848c8b81f0a8ddc", func := "bucketline/bucketlinelaw3.CrcFinds", spec := "crcFinds", apart := false }
def CrcFindsSaid : Prop := crcFindsRow.holds Try.pinned (OpenSpec.ofChange crcFindsSpec)

/-- ITS FALSE NEIGHBOUR: 'it returns false'. Refute it at one input. -/
def crcFindsWrong : ChangeSpec := { name := "crcFinds", fn := fun _ => fun
  | [d1, d2, d3, d4] => { results := [.lit (.bool false)], args := [d1, d2, d3, d4] }
  | _ => none }
def CrcFindsWrongFalsely : Prop := crcFindsRow.holds Try.pinned (OpenSpec.ofChange crcFindsWrong)

/-- 'bucketlinelaw3.CrcSplits': WHATEVER THE INPUT: true; the input reads as it did. -/
def crcSplitsSpec : ChangeSpec := { name := "crcSplits", fn := fun _ => fun
  | [d1, d2] => { results := [.lit (.bool true)], args := [d1, d2] }
  | _ => none }
def crcSplitsRow : OpenClaim := { program := "ytapeeajneikoeaa", sum := "683991f8bf49818287c95b746b1a76a298cf643d633b2212b848c8b81f0a8ddc", func := "bucketline/bucketlinelaw3.CrcSplits", spec := "crcSplits", apart := false }
def CrcSplitsSaid : Prop := crcSplitsRow.holds Try.pinned (OpenSpec.ofChange crcSplitsSpec)

/-- ITS FALSE NEIGHBOUR: 'it returns false'. Refute it at one input. -/
def crcSplitsWrong : ChangeSpec := { name := "crcSplits", fn := fun _ => fun
  | [d1, d2] => { results := [.lit (.bool false)], args := [d1, d2] }
  | _ => none }
def CrcSplitsWrongFalsely : Prop := crcSplitsRow.holds Try.pinned (OpenSpec.ofChange crcSplitsWrong)

/-- 'bucketlinelaw2.NumOnce': WHATEVER THE INPUT: true; the input reads as it did. -/
def numOnceSpec : ChangeSpec := { name := "numOnce", fn := fun _ => fun
  | [d] => { results := [.lit (.bool true)], args := [d] }
  | _ => none }
def numOnceRow : OpenClaim := { program := "ytapeeajneikoeaa", sum := "683991f8bf49818287c95b746b1a76a298cf643d633b2212b848c8b81f0a8ddc", func := "bucketline/bucketlinelaw2.NumOnce", spec := "numOnce", apart := false }
def NumOnceSaid : Prop := numOnceRow.holds Try.pinned (OpenSpec.ofChange numOnceSpec)

/-- ITS FALSE NEIGHBOUR: 'it returns false'. Refute it at one input. -/
def numOnceWrong : ChangeSpec := { name := "numOnce", fn := fun _ => fun
  | [d] => { results := [.lit (.bool false)], args := [d] }
  | _ => none }
def NumOnceWrongFalsely : Prop := numOnceRow.holds Try.pinned (OpenSpec.ofChange numOnceWrong)

/-- 'bucketlinelaw2.NumTexts': WHATEVER THE INPUT: true; the input reads as it did. -/
def numTextsSpec : ChangeSpec := { name := "numTexts", fn := fun _ => fun
  | [d1, d2] => { results := [.lit (.bool true)], args := [d1, d2] }
  | _ => none }
def numTextsRow : OpenClaim := { program := "ytapeeajneikoeaa", sum := "683991f8bf49818287c95b746b1a76a298cf643d633b2212b848c8b81f0a8ddc", func := "bucketline/bucketlinelaw2.NumTexts", spec := "numTexts", apart := false }
def NumTextsSaid : Prop := numTextsRow.holds Try.pinned (OpenSpec.ofChange numTextsSpec)

/-- ITS FALSE NEIGHBOUR: 'it returns false'. Refute it at one input. -/
def numTextsWrong : ChangeSpec := { name := "numTexts", fn := fun _ => fun
  | [d1, d2] => { results := [.lit (.bool false)], args := [d1, d2] }
  | _ => none }
def NumTextsWrongFalsely : Prop := numTextsRow.holds Try.pinned (OpenSpec.ofChange numTextsWrong)

/-- 'bucketlinelaw2.NumOrder': WHATEVER THE INPUT: true; the input reads as it did. -/
def numOrderSpec : ChangeSpec := { name := "numOrder", fn := fun _ => fun
  | [d1, d2] => { results := [.lit (.bool true)], args := [d1, d2] }
  | _ => none }
def numOrderRow : OpenClaim := { program := "ytapeeajneikoeaa", sum := "683991f8bf49818287c95b746b1a76a298cf643d633b2212b848c8b81f0a8ddc", func := "bucketline/bucketlinelaw2.NumOrder", spec := "numOrder", apart := false }
def NumOrderSaid : Prop := numOrderRow.holds Try.pinned (OpenSpec.ofChange numOrderSpec)

/-- ITS FALSE NEIGHBOUR: 'it returns false'. Refute it at one input. -/
def numOrderWrong : ChangeSpec := { name := "numOrder", fn := fun _ => fun
  | [d1, d2] => { results := [.lit (.bool false)], args := [d1, d2] }
  | _ => none }
def NumOrderWrongFalsely : Prop := numOrderRow.holds Try.pinned (OpenSpec.ofChange numOrderWrong)

/-- 'bucketlinelaw2.NumPuts': WHATEVER THE INPUT: true; the input reads as it did. -/
def numPutsSpec : ChangeSpec := { name := "numPuts", fn := fun _ => fun
  | [d1, d2, d3] => { results := [.lit (.bool true)], args := [d1, d2, d3] }
  | _ => none }
def numPutsRow : OpenClaim := { program := "ytapeeajneikoeaa", sum := "683991f8bf49818287c95b746b1a76a298cf643d633b2212b848c8b81f0a8ddc", func := "bucketline/bucketlinelaw2.NumPuts", spec := "numPuts", apart := false }
def NumPutsSaid : Prop := numPutsRow.holds Try.pinned (OpenSpec.ofChange numPutsSpec)

/-- ITS FALSE NEIGHBOUR: 'it returns false'. Refute it at one input. -/
def numPutsWrong : ChangeSpec := { name := "numPuts", fn := fun _ => fun
  | [d1, d2, d3] => { results := [.lit (.bool false)], args := [d1, d2, d3] }
  | _ => none }
def NumPutsWrongFalsely : Prop := numPutsRow.holds Try.pinned (OpenSpec.ofChange numPutsWrong)

/-- 'bucketlinelaw2.NumBack': WHATEVER THE INPUT: true; the input reads as it did. -/
def numBackSpec : ChangeSpec := { name := "numBack", fn := fun _ => fun
  | [d1, d2, d3, d4] => { results := [.lit (.bool true)], args := [d1, d2, d3, d4] }
  | _ => none }
def numBackRow : OpenClaim := { program := "ytapeeajneikoeaa", sum := "683991f8bf49818287c95b746b1a76a298cf643d633b2212b848c8b81f0a8ddc", func := "bucketline/bucketlinelaw2.NumBack", spec := "numBack", apart := false }
def NumBackSaid : Prop := numBackRow.holds Try.pinned (OpenSpec.ofChange numBackSpec)

/-- ITS FALSE NEIGHBOUR: 'it returns false'. Refute it at one input. -/
def numBackWrong : ChangeSpec := { name := "numBack", fn := fun _ => fun
  | [d1, d2, d3, d4] => { results := [.lit (.bool false)], args := [d1, d2, d3, d4] }
  | _ => none }
def NumBackWrongFalsely : Prop := numBackRow.holds Try.pinned (OpenSpec.ofChange numBackWrong)

/- THE SECOND FORM. 'bulk': how many values and letters a reading holds, each counted each time it is reached (what is shared counts as often as it is met; a slice's spare places count too). A statement '..UptoSaid' is the law's where the arguments, and the package variables that the reading takes, are together of bulk at most 1048576: NARROWER than '..Said'. Prove '..Said' where nothing that the law and all that it calls make is longer than what came in: it says more and counts as full. Else prove '..UptoSaid'. A law counts once. -/
mutual
def uptoBulk {H : Type} : DataW H → Nat
  | .lit (.string bytes) => bytes.length + 1
  | .lit _ => 1
  | .nil => 1
  | .ptr d => uptoBulk d + 1
  | .slice elems spare => uptoBulkAll elems + uptoBulkAll spare + 1
  | .agg parts => uptoBulkAll parts + 1
  | .iface _ d => uptoBulk d + 1
  | .map entries => uptoBulkEntries entries + 1
  | .held _ => 1
def uptoBulkAll {H : Type} : List (DataW H) → Nat
  | [] => 0
  | d :: r => uptoBulk d + uptoBulkAll r
def uptoBulkEntries {H : Type} : List (Lit × DataW H) → Nat
  | [] => 0
  | x :: r => uptoBulkEntry x + uptoBulkEntries r
def uptoBulkEntry {H : Type} : Lit × DataW H → Nat
  | (.string bytes, d) => bytes.length + uptoBulk d + 1
  | (_, d) => uptoBulk d + 1
 end
def uptoSmall : (H : Type) → List (DataW H) → Bool := fun _ ds => decide (uptoBulkAll ds ≤ 1048576)
def OpenSpec.upto (s : _root_.Go.ChangeSpec) : _root_.Go.OpenSpec := { _root_.Go.OpenSpec.ofChange s with cond := some uptoSmall }

/-- 'bucketlinelaw3.CrcSums', WHERE WHAT IT READS IS OF BULK AT MOST 1048576: true; the input reads as it did. -/
def crcSumsUptoRow : OpenClaim := { program := "ytapeeajneikoeaa", sum := "683991f8bf49818287c95b746b1a76a298cf643d633b2212b848c8b81f0a8ddc", func := "bucketline/bucketlinelaw3.CrcSums", spec := "crcSums", apart := false, narrowed := true }
def CrcSumsUptoSaid : Prop := crcSumsUptoRow.holds Try.pinned (OpenSpec.upto crcSumsSpec)

/-- 'bucketlinelaw3.CrcJoins', WHERE WHAT IT READS IS OF BULK AT MOST 1048576: true; the input reads as it did. -/
def crcJoinsUptoRow : OpenClaim := { program := "ytapeeajneikoeaa", sum := "683991f8bf49818287c95b746b1a76a298cf643d633b2212b848c8b81f0a8ddc", func := "bucketline/bucketlinelaw3.CrcJoins", spec := "crcJoins", apart := false, narrowed := true }
def CrcJoinsUptoSaid : Prop := crcJoinsUptoRow.holds Try.pinned (OpenSpec.upto crcJoinsSpec)

/-- 'bucketlinelaw3.CrcFinds', WHERE WHAT IT READS IS OF BULK AT MOST 1048576: true; the input reads as it did. -/
def crcFindsUptoRow : OpenClaim := { program := "ytapeeajneikoeaa", sum := "683991f8bf49818287c95b746b1a76a298cf643d633b2212b848c8b81f0a8ddc", func := "bucketline/bucketlinelaw3.CrcFinds", spec := "crcFinds", apart := false, narrowed := true }
def CrcFindsUptoSaid : Prop := crcFindsUptoRow.holds Try.pinned (OpenSpec.upto crcFindsSpec)

/-- 'bucketlinelaw3.CrcSplits', WHERE WHAT IT READS IS OF BULK AT MOST 1048576: true; the input reads as it did. -/
def crcSplitsUptoRow : OpenClaim := { program := "ytapeeajneikoeaa", sum := "683991f8bf49818287c95b746b1a76a298cf643d633b2212b848c8b81f0a8ddc", func := "bucketline/bucketlinelaw3.CrcSplits", spec := "crcSplits", apart := false, narrowed := true }
def CrcSplitsUptoSaid : Prop := crcSplitsUptoRow.holds Try.pinned (OpenSpec.upto crcSplitsSpec)

/-- 'bucketlinelaw2.NumOnce', WHERE WHAT IT READS IS OF BULK AT MOST 1048576: true; the input reads as it did. -/
def numOnceUptoRow : OpenClaim := { program := "ytapeeajneikoeaa", sum := "683991f8bf49818287c95b746b1a76a298cf643d633b2212b848c8b81f0a8ddc", func := "bucketline/bucketlinelaw2.NumOnce", spec := "numOnce", apart := false, narrowed := true }
def NumOnceUptoSaid : Prop := numOnceUptoRow.holds Try.pinned (OpenSpec.upto numOnceSpec)

/-- 'bucketlinelaw2.NumTexts', WHERE WHAT IT READS IS OF BULK AT MOST 1048576: true; the input reads as it did. -/
def numTextsUptoRow : OpenClaim := { program := "ytapeeajneikoeaa", sum := "683991f8bf49818287c95b746b1a76a298cf643d633b2212b848c8b81f0a8ddc", func := "bucketline/bucketlinelaw2.NumTexts", spec := "numTexts", apart := false, narrowed := true }
def NumTextsUptoSaid : Prop := numTextsUptoRow.holds Try.pinned (OpenSpec.upto numTextsSpec)

/-- 'bucketlinelaw2.NumOrder', WHERE WHAT IT READS IS OF BULK AT MOST 1048576: true; the input reads as it did. -/
def numOrderUptoRow : OpenClaim := { program := "ytapeeajneikoeaa", sum := "683991f8bf49818287c95b746b1a76a298cf643d633b2212b848c8b81f0a8ddc", func := "bucketline/bucketlinelaw2.NumOrder", spec := "numOrder", apart := false, narrowed := true }
def NumOrderUptoSaid : Prop := numOrderUptoRow.holds Try.pinned (OpenSpec.upto numOrderSpec)

/-- 'bucketlinelaw2.NumPuts', WHERE WHAT IT READS IS OF BULK AT MOST 1048576: true; the input reads as it did. -/
def numPutsUptoRow : OpenClaim := { program := "ytapeeajneikoeaa", sum := "683991f8bf49818287c95b746b1a76a298cf643d633b2212b848c8b81f0a8ddc", func := "bucketline/bucketlinelaw2.NumPuts", spec := "numPuts", apart := false, narrowed := true }
def NumPutsUptoSaid : Prop := numPutsUptoRow.holds Try.pinned (OpenSpec.upto numPutsSpec)

/-- 'bucketlinelaw2.NumBack', WHERE WHAT IT READS IS OF BULK AT MOST 1048576: true; the input reads as it did. -/
def numBackUptoRow : OpenClaim := { program := "ytapeeajneikoeaa", sum := "683991f8bf49818287c95b746b1a76a298cf643d633b2212b848c8b81f0a8ddc", func := "bucketline/bucketlinelaw2.NumBack", spec := "numBack", apart := false, narrowed := true }
def NumBackUptoSaid : Prop := numBackUptoRow.holds Try.pinned (OpenSpec.upto numBackSpec)

end Rows
end Go.Proofs.Ytapeeajneikoeaa
