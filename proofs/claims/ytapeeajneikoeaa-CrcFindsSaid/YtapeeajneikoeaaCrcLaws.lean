/-
  The walks of chapter 3's statements.
-/
import Derived.Test.YtapeeajneikoeaaCrcShown
import Derived.Deep.RegionHeld3
namespace Go.Proofs.Ytapeeajneikoeaa
open Go.RowKit

theorem u32_bounds {a : Int} (w0 : (Lit.int .u32 a).wf = true) : ∃ c : Nat, c < 4294967296 ∧ a = c := by
  have hx : 0 ≤ a ∧ a ≤ 4294967295 := by simpa [Lit.wf, IntKind.min, IntKind.max, IntKind.signed, IntKind.bits] using w0
  exact ⟨a.toNat, by omega, by omega⟩

set_option maxHeartbeats 400000 in
theorem walkCrcSums (a0 : Int) (w0 : (Lit.int .u32 a0).wf = true) (s : ByteArray) (hl : s.size ≤ maxLen) (w : World) :
    Calls Try.prog 3 #[.int .u32 a0, .string s] w fun e w' => e = .returned (.bool true) ∧ Below w.heap.size w w' := by
  obtain ⟨c, hc, rfl⟩ := u32_bounds w0
  have hm := hl
  unfold maxLen at hm
  by_cases h : 3000 < s.size
  · go_enter Try.func3, Try.ntmps3
    go_wp2_with fail
    refine (crcShown _).mono ?_
    rintro e w1 ⟨rfl, h1⟩
    go_wp2_with fail
    go_ret
    exact ⟨rfl, h1⟩
  · go_enter Try.func3, Try.ntmps3
    go_wp2_with fail
    refine (crcShown _).mono ?_
    rintro e w1 ⟨rfl, h1⟩
    go_wp2_with fail
    refine (update_any c s _ hc hl).mono ?_
    rintro e w2 ⟨rfl, h2⟩
    go_wp2_with fail
    refine (refUpdate_any c s _ hc hl).mono ?_
    rintro e w3 ⟨rfl, rfl⟩
    go_wp2_with fail
    refine (sum_any s _ hl).mono ?_
    rintro e w3 ⟨rfl, h3⟩
    go_wp2_with fail
    refine (refSum_any s _ hl).mono ?_
    rintro e w4 ⟨rfl, rfl⟩
    go_wp2_with fail
    go_ret
    exact ⟨rfl, (h1.trans (h2.mono h1.size)).trans (h3.mono (Nat.le_trans h1.size h2.size))⟩
end Go.Proofs.Ytapeeajneikoeaa
