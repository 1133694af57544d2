/-
  The walk of the statement NumPuts: the bytes of numbers and texts are the reference's.
-/
import Derived.Test.YtapeeajneikoeaaNumRef
namespace Go.Proofs.Ytapeeajneikoeaa
open Go.RowKit

theorem u32_bounds' {a : Int} (w0 : (Lit.int .u32 a).wf = true) : ∃ c : Nat, c < 4294967296 ∧ a = c := by
  have hx : 0 ≤ a ∧ a ≤ 4294967295 := by simpa [Lit.wf, IntKind.min, IntKind.max, IntKind.signed, IntKind.bits] using w0
  exact ⟨a.toNat, by omega, by omega⟩

set_option maxRecDepth 100000 in
set_option maxHeartbeats 800000 in
theorem walkNumPuts (n : Int) (_wn : (Lit.int .i64 n).wf = true) (m0 : Int) (wm : (Lit.int .u32 m0).wf = true) (s : ByteArray) (hs : s.size ≤ maxLen) (w : World) :
    Calls Try.prog 10 #[.int .i64 n, .int .u32 m0, .string s] w fun e w' => e = .returned (.bool true) ∧ Below w.heap.size w w' := by
  obtain ⟨m, hm, rfl⟩ := u32_bounds' wm
  unfold maxLen at hs
  by_cases h : 1000 < s.size
  · go_enter Try.func10, Try.ntmps10
    go_wp2_with fail
    refine (numShown _).mono ?_
    rintro e w1 ⟨rfl, h1⟩
    go_wp2_with fail
    go_ret
    exact ⟨rfl, h1⟩
  · have hs2 : s.size ≤ 4611686018427387904 := by omega
    go_enter Try.func10, Try.ntmps10
    go_wp2_with fail
    refine (numShown _).mono ?_
    rintro e w1 ⟨rfl, h1⟩
    go_wp2_with fail
    refine (put_any _ _).mono ?_
    rintro e w2 ⟨rfl, h2⟩
    go_wp2_with fail
    refine (refPut_any _ _).mono ?_
    rintro e w3 ⟨rfl, h3⟩
    go_wp2_with fail
    refine (putInt_any _ _).mono ?_
    rintro e w4 ⟨rfl, h4⟩
    go_wp2_with fail
    refine (refPutInt_any _ _).mono ?_
    rintro e w5 ⟨rfl, h5⟩
    go_wp2_with fail
    refine (putText_any _ _ hs2).mono ?_
    rintro e w6 ⟨rfl, h6⟩
    go_wp2_with fail
    refine (refPutText_any _ _ hs2).mono ?_
    rintro e w7 ⟨rfl, h7⟩
    go_wp2_with fail
    refine (fixed_any _ _ hm).mono ?_
    rintro e w8 ⟨rfl, h8⟩
    go_wp2_with fail
    refine (refFixed_any _ _ hm).mono ?_
    rintro e w9 ⟨rfl, h9⟩
    go_wp2_with fail
    go_ret
    exact ⟨rfl, bstep (bstep (bstep (bstep (bstep (bstep (bstep (bstep h1 h2) h3) h4) h5) h6) h7) h8) h9⟩
end Go.Proofs.Ytapeeajneikoeaa
