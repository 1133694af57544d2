/-
  No cell of these rows narrows 'for every input' (looked for: loops, veiled, ifaces, maps, wideKeys, modest, calm, conditions, laid).
  DERIVED. THE GIVEN ROWS OF THIS SEAT. 4 by the template 'for every input the law returns true; each argument reads behind the call as it read before'; 0 by the template 'total and deterministic' (their statements: YtpadbkplknnopaaTotals.lean).
  GIVEN WITH THE SEED: the statements are not yours to turn. If you find one false, say at which input.
  Laid BY PROGRAM, IN A SANDBOX (cutbox-rows.mjs): the forced cells as the released guide's own fill.sh prints them over the translation 5e8398b3f7a736f9… (all of the seat's roots in one cut). By AI agents, Wed Nov 11 2026. No macro, syntax, notation, axiom, sorry.
-/
import Derived.Test.YtpadbkplknnopaaChecked
import GoSem.Claim
import GoSem.ClaimJoined
import GoSem.ClaimMapViews
import Derived.JoinedTies
import Derived.KernelRfl
namespace Go.Proofs.Ytpadbkplknnopaa
/- THE CELL 'sum', in the pinned program and in every row, IS THE sha256 OF THE DUMP (.gsa) THAT YtpadbkplknnopaaProg.lean LOADS. Nothing in Lean hashes anything: it is a label: what it is worth is what the hold of that sum in a sandbox is worth. -/
noncomputable def Try.pinned : Pinned := { name := "ytpadbkplknnopaa", sum := "5e8398b3f7a736f92fef1209d8997114a3f7f8bc53541e613d767c23e5c9e915", checked := Try.checked }
namespace Rows
def none {H : Type} : Left H := { results := [], args := [] }

/-- 'bucketlinelaw12.TimerOrders': WHATEVER THE INPUT: true; the input reads as it did. -/
def timerOrdersSpec : ChangeSpec := { name := "timerOrders", fn := fun _ => fun
  | [d1, d2] => { results := [.lit (.bool true)], args := [d1, d2] }
  | _ => none }
def timerOrdersRow : OpenClaim := { program := "ytpadbkplknnopaa", sum := "5e8398b3f7a736f92fef1209d8997114a3f7f8bc53541e613d767c23e5c9e915", func := "bucketline/bucketlinelaw12.TimerOrders", spec := "timerOrders", inPlace := ["internal/bytealg.abigen_runtime_cmpstring", "slices.overlaps[bucketline/timer.Timer]"], unfollowed := true, recurses := true, apart := false }
def TimerOrdersSaid : Prop := timerOrdersRow.holds Try.pinned (OpenSpec.ofChange timerOrdersSpec)

/-- ITS FALSE NEIGHBOUR: 'it returns false'. Refute it at one input. -/
def timerOrdersWrong : ChangeSpec := { name := "timerOrders", fn := fun _ => fun
  | [d1, d2] => { results := [.lit (.bool false)], args := [d1, d2] }
  | _ => none }
def TimerOrdersWrongFalsely : Prop := timerOrdersRow.holds Try.pinned (OpenSpec.ofChange timerOrdersWrong)

/-- 'bucketlinelaw12.TimerTakes': WHATEVER THE INPUT: true; the input reads as it did. -/
def timerTakesSpec : ChangeSpec := { name := "timerTakes", fn := fun _ => fun
  | [d1, d2, d3] => { results := [.lit (.bool true)], args := [d1, d2, d3] }
  | _ => none }
def timerTakesRow : OpenClaim := { program := "ytpadbkplknnopaa", sum := "5e8398b3f7a736f92fef1209d8997114a3f7f8bc53541e613d767c23e5c9e915", func := "bucketline/bucketlinelaw12.TimerTakes", spec := "timerTakes", inPlace := ["internal/bytealg.abigen_runtime_cmpstring", "slices.overlaps[bucketline/timer.Timer]"], unfollowed := true, recurses := true, apart := false }
def TimerTakesSaid : Prop := timerTakesRow.holds Try.pinned (OpenSpec.ofChange timerTakesSpec)

/-- ITS FALSE NEIGHBOUR: 'it returns false'. Refute it at one input. -/
def timerTakesWrong : ChangeSpec := { name := "timerTakes", fn := fun _ => fun
  | [d1, d2, d3] => { results := [.lit (.bool false)], args := [d1, d2, d3] }
  | _ => none }
def TimerTakesWrongFalsely : Prop := timerTakesRow.holds Try.pinned (OpenSpec.ofChange timerTakesWrong)

/-- 'bucketlinelaw12.TimerPlays': WHATEVER THE INPUT: true; the input reads as it did. -/
def timerPlaysSpec : ChangeSpec := { name := "timerPlays", fn := fun _ => fun
  | [d] => { results := [.lit (.bool true)], args := [d] }
  | _ => none }
def timerPlaysRow : OpenClaim := { program := "ytpadbkplknnopaa", sum := "5e8398b3f7a736f92fef1209d8997114a3f7f8bc53541e613d767c23e5c9e915", func := "bucketline/bucketlinelaw12.TimerPlays", spec := "timerPlays", inPlace := ["internal/bytealg.abigen_runtime_cmpstring", "slices.overlaps[bucketline/timer.Timer]"], unfollowed := true, recurses := true, apart := false }
def TimerPlaysSaid : Prop := timerPlaysRow.holds Try.pinned (OpenSpec.ofChange timerPlaysSpec)

/-- ITS FALSE NEIGHBOUR: 'it returns false'. Refute it at one input. -/
def timerPlaysWrong : ChangeSpec := { name := "timerPlays", fn := fun _ => fun
  | [d] => { results := [.lit (.bool false)], args := [d] }
  | _ => none }
def TimerPlaysWrongFalsely : Prop := timerPlaysRow.holds Try.pinned (OpenSpec.ofChange timerPlaysWrong)

/-- 'bucketlinelaw12.TimerOnce': WHATEVER THE INPUT: true; the input reads as it did. -/
def timerOnceSpec : ChangeSpec := { name := "timerOnce", fn := fun _ => fun
  | [d1, d2, d3, d4] => { results := [.lit (.bool true)], args := [d1, d2, d3, d4] }
  | _ => none }
def timerOnceRow : OpenClaim := { program := "ytpadbkplknnopaa", sum := "5e8398b3f7a736f92fef1209d8997114a3f7f8bc53541e613d767c23e5c9e915", func := "bucketline/bucketlinelaw12.TimerOnce", spec := "timerOnce", inPlace := ["internal/bytealg.abigen_runtime_cmpstring", "slices.overlaps[bucketline/timer.Timer]"], unfollowed := true, recurses := true, apart := false }
def TimerOnceSaid : Prop := timerOnceRow.holds Try.pinned (OpenSpec.ofChange timerOnceSpec)

/-- ITS FALSE NEIGHBOUR: 'it returns false'. Refute it at one input. -/
def timerOnceWrong : ChangeSpec := { name := "timerOnce", fn := fun _ => fun
  | [d1, d2, d3, d4] => { results := [.lit (.bool false)], args := [d1, d2, d3, d4] }
  | _ => none }
def TimerOnceWrongFalsely : Prop := timerOnceRow.holds Try.pinned (OpenSpec.ofChange timerOnceWrong)

/- THE SECOND FORM. 'bulk': how many values and letters a reading holds, each counted each time it is reached (what is shared counts as often as it is met; a slice's spare places count too). A statement '..UptoSaid' is the law's where the arguments, and the package variables that the reading takes, are together of bulk at most 1048576: NARROWER than '..Said'. Prove '..Said' where nothing that the law and all that it calls make is longer than what came in: it says more and counts as full. Else prove '..UptoSaid'. A law counts once. -/
mutual
def uptoBulk {H : Type} : DataW H → Nat
  | .lit (.string bytes) => bytes.length + 1
  | .lit _ => 1
  | .nil => 1
  | .ptr d => uptoBulk d + 1
  | .slice elems spare => uptoBulkAll elems + uptoBulkAll spare + 1
  | .agg parts => uptoBulkAll parts + 1
  | .iface _ d => uptoBulk d + 1
  | .map entries => uptoBulkEntries entries + 1
  | .held _ => 1
def uptoBulkAll {H : Type} : List (DataW H) → Nat
  | [] => 0
  | d :: r => uptoBulk d + uptoBulkAll r
def uptoBulkEntries {H : Type} : List (Lit × DataW H) → Nat
  | [] => 0
  | x :: r => uptoBulkEntry x + uptoBulkEntries r
def uptoBulkEntry {H : Type} : Lit × DataW H → Nat
  | (.string bytes, d) => bytes.length + uptoBulk d + 1
  | (_, d) => uptoBulk d + 1
 end
def uptoSmall : (H : Type) → List (DataW H) → Bool := fun _ ds => decide (uptoBulkAll ds ≤ 1048576)
def OpenSpec.upto (s : _root_.Go.ChangeSpec) : _root_.Go.OpenSpec := { _root_.Go.OpenSpec.ofChange s with cond := some uptoSmall }

/-- 'bucketlinelaw12.TimerOrders', WHERE WHAT IT READS IS OF BULK AT MOST 1048576: true; the input reads as it did. -/
def timerOrdersUptoRow : OpenClaim := { program := "ytpadbkplknnopaa", sum := "5e8398b3f7a736f92fef1209d8997114a3f7f8bc53541e613d767c23e5c9e915", func := "bucketline/bucketlinelaw12.TimerOrders", spec := "timerOrders", inPlace := ["internal/bytealg.abigen_runtime_cmpstring", "slices.overlaps[bucketline/timer.Timer]"], unfollowed := true, recurses := true, apart := false, narrowed := true }
def TimerOrdersUptoSaid : Prop := timerOrdersUptoRow.holds Try.pinned (OpenSpec.upto timerOrdersSpec)

/-- 'bucketlinelaw12.TimerTakes', WHERE WHAT IT READS IS OF BULK AT MOST 1048576: true; the input reads as it did. -/
def timerTakesUptoRow : OpenClaim := { program := "ytpadbkplknnopaa", sum := "5e8398b3f7a736f92fef1209d8997114a3f7f8bc53541e613d767c23e5c9e915", func := "bucketline/bucketlinelaw12.TimerTakes", spec := "timerTakes", inPlace := ["internal/bytealg.abigen_runtime_cmpstring", "slices.overlaps[bucketline/timer.Timer]"], unfollowed := true, recurses := true, apart := false, narrowed := true }
def TimerTakesUptoSaid : Prop := timerTakesUptoRow.holds Try.pinned (OpenSpec.upto timerTakesSpec)

/-- 'bucketlinelaw12.TimerPlays', WHERE WHAT IT READS IS OF BULK AT MOST 1048576: true; the input reads as it did. -/
def timerPlaysUptoRow : OpenClaim := { program := "ytpadbkplknnopaa", sum := "5e8398b3f7a736f92fef1209d8997114a3f7f8bc53541e613d767c23e5c9e915", func := "bucketline/bucketlinelaw12.TimerPlays", spec := "timerPlays", inPlace := ["internal/bytealg.abigen_runtime_cmpstring", "slices.overlaps[bucketline/timer.Timer]"], unfollowed := true, recurses := true, apart := false, narrowed := true }
def TimerPlaysUptoSaid : Prop := timerPlaysUptoRow.holds Try.pinned (OpenSpec.upto timerPlaysSpec)

/-- 'bucketlinelaw12.TimerOnce', WHERE WHAT IT READS IS OF BULK AT MOST 1048576: true; the input reads as it did. -/
def timerOnceUptoRow : OpenClaim := { program := "ytpadbkplknnopaa", sum := "5e8398b3f7a736f92fef1209d8997114a3f7f8bc53541e613d767c23e5c9e915", func := "bucketline/bucketlinelaw12.TimerOnce", spec := "timerOnce", inPlace := ["internal/bytealg.abigen_runtime_cmpstring", "slices.overlaps[bucketline/timer.Timer]"], unfollowed := true, recurses := true, apart := false, narrowed := true }
def TimerOnceUptoSaid : Prop := timerOnceUptoRow.holds Try.pinned (OpenSpec.upto timerOnceSpec)

end Rows
end Go.Proofs.Ytpadbkplknnopaa
