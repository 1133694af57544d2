/-
  No cell of these rows narrows 'for every input' (looked for: loops, veiled, ifaces, maps, wideKeys, modest, calm, conditions, laid).
  DERIVED. THE GIVEN ROWS OF THIS SEAT. 6 by the template 'for every input the law returns true; each argument reads behind the call as it read before'; 0 by the template 'total and deterministic' (their statements: YtebliglfofjafaaTotals.lean).
  GIVEN WITH THE SEED: the statements are not yours to turn. If you find one false, say at which input.
  Laid BY PROGRAM, IN A SANDBOX (cutbox-rows.mjs): the forced cells as the released guide's own fill.sh prints them over the translation b27a190463acf061… (all of the seat's roots in one cut). By AI agents, Wed Nov 11 2026. No macro, syntax, notation, axiom, sorry.
-/
import Derived.Test.YtebliglfofjafaaChecked
import GoSem.Claim
import GoSem.ClaimJoined
import GoSem.ClaimMapViews
import Derived.JoinedTies
import Derived.KernelRfl
namespace Go.Proofs.Ytebliglfofjafaa
/- THE CELL 'sum', in the pinned program and in every row, IS THE sha256 OF THE DUMP (.gsa) THAT YtebliglfofjafaaProg.lean LOADS. Nothing in Lean hashes anything: it is a label: what it is worth is what the hold of that sum in a sandbox is worth. -/
noncomputable def Try.pinned : Pinned := { name := "ytebliglfofjafaa", sum := "b27a190463acf0610e814020b00e56130808713d9ab660e0f798c7d9706ebca8", checked := Try.checked }
namespace Rows
def none {H : Type} : Left H := { results := [], args := [] }

/-- 'bucketlinelaw4.FramePuts': WHATEVER THE INPUT: true; the input reads as it did. -/
def framePutsSpec : ChangeSpec := { name := "framePuts", fn := fun _ => fun
  | [d1, d2] => { results := [.lit (.bool true)], args := [d1, d2] }
  | _ => none }
def framePutsRow : OpenClaim := { program := "ytebliglfofjafaa", sum := "b27a190463acf0610e814020b00e56130808713d9ab660e0f798c7d9706ebca8", func := "bucketline/bucketlinelaw4.FramePuts", spec := "framePuts", inPlace := ["internal/abi.NoEscape"], unfollowed := true, recurses := true, apart := false }
def FramePutsSaid : Prop := framePutsRow.holds Try.pinned (OpenSpec.ofChange framePutsSpec)

/-- ITS FALSE NEIGHBOUR: 'it returns false'. Refute it at one input. -/
def framePutsWrong : ChangeSpec := { name := "framePuts", fn := fun _ => fun
  | [d1, d2] => { results := [.lit (.bool false)], args := [d1, d2] }
  | _ => none }
def FramePutsWrongFalsely : Prop := framePutsRow.holds Try.pinned (OpenSpec.ofChange framePutsWrong)

/-- 'bucketlinelaw4.FrameTakes': WHATEVER THE INPUT: true; the input reads as it did. -/
def frameTakesSpec : ChangeSpec := { name := "frameTakes", fn := fun _ => fun
  | [d] => { results := [.lit (.bool true)], args := [d] }
  | _ => none }
def frameTakesRow : OpenClaim := { program := "ytebliglfofjafaa", sum := "b27a190463acf0610e814020b00e56130808713d9ab660e0f798c7d9706ebca8", func := "bucketline/bucketlinelaw4.FrameTakes", spec := "frameTakes", inPlace := ["internal/abi.NoEscape"], unfollowed := true, recurses := true, apart := false }
def FrameTakesSaid : Prop := frameTakesRow.holds Try.pinned (OpenSpec.ofChange frameTakesSpec)

/-- ITS FALSE NEIGHBOUR: 'it returns false'. Refute it at one input. -/
def frameTakesWrong : ChangeSpec := { name := "frameTakes", fn := fun _ => fun
  | [d] => { results := [.lit (.bool false)], args := [d] }
  | _ => none }
def FrameTakesWrongFalsely : Prop := frameTakesRow.holds Try.pinned (OpenSpec.ofChange frameTakesWrong)

/-- 'bucketlinelaw4.FrameTorn': WHATEVER THE INPUT: true; the input reads as it did. -/
def frameTornSpec : ChangeSpec := { name := "frameTorn", fn := fun _ => fun
  | [d1, d2, d3] => { results := [.lit (.bool true)], args := [d1, d2, d3] }
  | _ => none }
def frameTornRow : OpenClaim := { program := "ytebliglfofjafaa", sum := "b27a190463acf0610e814020b00e56130808713d9ab660e0f798c7d9706ebca8", func := "bucketline/bucketlinelaw4.FrameTorn", spec := "frameTorn", inPlace := ["internal/abi.NoEscape"], unfollowed := true, recurses := true, apart := false }
def FrameTornSaid : Prop := frameTornRow.holds Try.pinned (OpenSpec.ofChange frameTornSpec)

/-- ITS FALSE NEIGHBOUR: 'it returns false'. Refute it at one input. -/
def frameTornWrong : ChangeSpec := { name := "frameTorn", fn := fun _ => fun
  | [d1, d2, d3] => { results := [.lit (.bool false)], args := [d1, d2, d3] }
  | _ => none }
def FrameTornWrongFalsely : Prop := frameTornRow.holds Try.pinned (OpenSpec.ofChange frameTornWrong)

/-- 'bucketlinelaw4.FrameTurns': WHATEVER THE INPUT: true; the input reads as it did. -/
def frameTurnsSpec : ChangeSpec := { name := "frameTurns", fn := fun _ => fun
  | [d1, d2, d3] => { results := [.lit (.bool true)], args := [d1, d2, d3] }
  | _ => none }
def frameTurnsRow : OpenClaim := { program := "ytebliglfofjafaa", sum := "b27a190463acf0610e814020b00e56130808713d9ab660e0f798c7d9706ebca8", func := "bucketline/bucketlinelaw4.FrameTurns", spec := "frameTurns", inPlace := ["internal/abi.NoEscape"], unfollowed := true, recurses := true, apart := false }
def FrameTurnsSaid : Prop := frameTurnsRow.holds Try.pinned (OpenSpec.ofChange frameTurnsSpec)

/-- ITS FALSE NEIGHBOUR: 'it returns false'. Refute it at one input. -/
def frameTurnsWrong : ChangeSpec := { name := "frameTurns", fn := fun _ => fun
  | [d1, d2, d3] => { results := [.lit (.bool false)], args := [d1, d2, d3] }
  | _ => none }
def FrameTurnsWrongFalsely : Prop := frameTurnsRow.holds Try.pinned (OpenSpec.ofChange frameTurnsWrong)

/-- 'bucketlinelaw4.FrameRows': WHATEVER THE INPUT: true; the input reads as it did. -/
def frameRowsSpec : ChangeSpec := { name := "frameRows", fn := fun _ => fun
  | [d1, d2] => { results := [.lit (.bool true)], args := [d1, d2] }
  | _ => none }
def frameRowsRow : OpenClaim := { program := "ytebliglfofjafaa", sum := "b27a190463acf0610e814020b00e56130808713d9ab660e0f798c7d9706ebca8", func := "bucketline/bucketlinelaw4.FrameRows", spec := "frameRows", inPlace := ["internal/abi.NoEscape"], unfollowed := true, recurses := true, apart := false }
def FrameRowsSaid : Prop := frameRowsRow.holds Try.pinned (OpenSpec.ofChange frameRowsSpec)

/-- ITS FALSE NEIGHBOUR: 'it returns false'. Refute it at one input. -/
def frameRowsWrong : ChangeSpec := { name := "frameRows", fn := fun _ => fun
  | [d1, d2] => { results := [.lit (.bool false)], args := [d1, d2] }
  | _ => none }
def FrameRowsWrongFalsely : Prop := frameRowsRow.holds Try.pinned (OpenSpec.ofChange frameRowsWrong)

/-- 'bucketlinelaw4.FrameOne': WHATEVER THE INPUT: true; the input reads as it did. -/
def frameOneSpec : ChangeSpec := { name := "frameOne", fn := fun _ => fun
  | [d] => { results := [.lit (.bool true)], args := [d] }
  | _ => none }
def frameOneRow : OpenClaim := { program := "ytebliglfofjafaa", sum := "b27a190463acf0610e814020b00e56130808713d9ab660e0f798c7d9706ebca8", func := "bucketline/bucketlinelaw4.FrameOne", spec := "frameOne", inPlace := ["internal/abi.NoEscape"], unfollowed := true, recurses := true, apart := false }
def FrameOneSaid : Prop := frameOneRow.holds Try.pinned (OpenSpec.ofChange frameOneSpec)

/-- ITS FALSE NEIGHBOUR: 'it returns false'. Refute it at one input. -/
def frameOneWrong : ChangeSpec := { name := "frameOne", fn := fun _ => fun
  | [d] => { results := [.lit (.bool false)], args := [d] }
  | _ => none }
def FrameOneWrongFalsely : Prop := frameOneRow.holds Try.pinned (OpenSpec.ofChange frameOneWrong)

/- THE SECOND FORM. 'bulk': how many values and letters a reading holds, each counted each time it is reached (what is shared counts as often as it is met; a slice's spare places count too). A statement '..UptoSaid' is the law's where the arguments, and the package variables that the reading takes, are together of bulk at most 1048576: NARROWER than '..Said'. Prove '..Said' where nothing that the law and all that it calls make is longer than what came in: it says more and counts as full. Else prove '..UptoSaid'. A law counts once. -/
mutual
def uptoBulk {H : Type} : DataW H → Nat
  | .lit (.string bytes) => bytes.length + 1
  | .lit _ => 1
  | .nil => 1
  | .ptr d => uptoBulk d + 1
  | .slice elems spare => uptoBulkAll elems + uptoBulkAll spare + 1
  | .agg parts => uptoBulkAll parts + 1
  | .iface _ d => uptoBulk d + 1
  | .map entries => uptoBulkEntries entries + 1
  | .held _ => 1
def uptoBulkAll {H : Type} : List (DataW H) → Nat
  | [] => 0
  | d :: r => uptoBulk d + uptoBulkAll r
def uptoBulkEntries {H : Type} : List (Lit × DataW H) → Nat
  | [] => 0
  | x :: r => uptoBulkEntry x + uptoBulkEntries r
def uptoBulkEntry {H : Type} : Lit × DataW H → Nat
  | (.string bytes, d) => bytes.length + uptoBulk d + 1
  | (_, d) => uptoBulk d + 1
 end
def uptoSmall : (H : Type) → List (DataW H) → Bool := fun _ ds => decide (uptoBulkAll ds ≤ 1048576)
def OpenSpec.upto (s : _root_.Go.ChangeSpec) : _root_.Go.OpenSpec := { _root_.Go.OpenSpec.ofChange s with cond := some uptoSmall }

/-- 'bucketlinelaw4.FramePuts', WHERE WHAT IT READS IS OF BULK AT MOST 1048576: true; the input reads as it did. -/
def framePutsUptoRow : OpenClaim := { program := "ytebliglfofjafaa", sum := "b27a190463acf0610e814020b00e56130808713d9ab660e0f798c7d9706ebca8", func := "bucketline/bucketlinelaw4.FramePuts", spec := "framePuts", inPlace := ["internal/abi.NoEscape"], unfollowed := true, recurses := true, apart := false, narrowed := true }
def FramePutsUptoSaid : Prop := framePutsUptoRow.holds Try.pinned (OpenSpec.upto framePutsSpec)

/-- 'bucketlinelaw4.FrameTakes', WHERE WHAT IT READS IS OF BULK AT MOST 1048576: true; the input reads as it did. -/
def frameTakesUptoRow : OpenClaim := { program := "ytebliglfofjafaa", sum := "b27a190463acf0610e814020b00e56130808713d9ab660e0f798c7d9706ebca8", func := "bucketline/bucketlinelaw4.FrameTakes", spec := "frameTakes", inPlace := ["internal/abi.NoEscape"], unfollowed := true, recurses := true, apart := false, narrowed := true }
def FrameTakesUptoSaid : Prop := frameTakesUptoRow.holds Try.pinned (OpenSpec.upto frameTakesSpec)

/-- 'bucketlinelaw4.FrameTorn', WHERE WHAT IT READS IS OF BULK AT MOST 1048576: true; the input reads as it did. -/
def frameTornUptoRow : OpenClaim := { program := "ytebliglfofjafaa", sum := "b27a190463acf0610e814020b00e56130808713d9ab660e0f798c7d9706ebca8", func := "bucketline/bucketlinelaw4.FrameTorn", spec := "frameTorn", inPlace := ["internal/abi.NoEscape"], unfollowed := true, recurses := true, apart := false, narrowed := true }
def FrameTornUptoSaid : Prop := frameTornUptoRow.holds Try.pinned (OpenSpec.upto frameTornSpec)

/-- 'bucketlinelaw4.FrameTurns', WHERE WHAT IT READS IS OF BULK AT MOST 1048576: true; the input reads as it did. -/
def frameTurnsUptoRow : OpenClaim := { program := "ytebliglfofjafaa", sum := "b27a190463acf0610e814020b00e56130808713d9ab660e0f798c7d9706ebca8", func := "bucketline/bucketlinelaw4.FrameTurns", spec := "frameTurns", inPlace := ["internal/abi.NoEscape"], unfollowed := true, recurses := true, apart := false, narrowed := true }
def FrameTurnsUptoSaid : Prop := frameTurnsUptoRow.holds Try.pinned (OpenSpec.upto frameTurnsSpec)

/-- 'bucketlinelaw4.FrameRows', WHERE WHAT IT READS IS OF BULK AT MOST 1048576: true; the input reads as it did. -/
def frameRowsUptoRow : OpenClaim := { program := "ytebliglfofjafaa", sum := "b27a190463acf0610e814020b00e56130808713d9ab660e0f798c7d9706ebca8", func := "bucketline/bucketlinelaw4.FrameRows", spec := "frameRows", inPlace := ["internal/abi.NoEscape"], unfollowed := true, recurses := true, apart := false, narrowed := true }
def FrameRowsUptoSaid : Prop := frameRowsUptoRow.holds Try.pinned (OpenSpec.upto frameRowsSpec)

/-- 'bucketlinelaw4.FrameOne', WHERE WHAT IT READS IS OF BULK AT MOST 1048576: true; the input reads as it did. -/
def frameOneUptoRow : OpenClaim := { program := "ytebliglfofjafaa", sum := "b27a190463acf0610e814020b00e56130808713d9ab660e0f798c7d9706ebca8", func := "bucketline/bucketlinelaw4.FrameOne", spec := "frameOne", inPlace := ["internal/abi.NoEscape"], unfollowed := true, recurses := true, apart := false, narrowed := true }
def FrameOneUptoSaid : Prop := frameOneUptoRow.holds Try.pinned (OpenSpec.upto frameOneSpec)

end Rows
end Go.Proofs.Ytebliglfofjafaa
