/-
  Chapter 3's examples hold.
-/
import Derived.Test.YtapeeajneikoeaaCrcWalk
import Derived.Deep.RegionWith
namespace Go.Proofs.Ytapeeajneikoeaa
open Go.RowKit

theorem sum_lit (s : ByteArray) (n : Nat) (h : crcU 0 s.data.toList = n) (hs : s.size ≤ maxLen) (w : World) :
    Calls Try.prog 15 #[.string s] w fun e w' => e = .returned (.int .u32 n) ∧ Below w.heap.size w w' := by
  subst h
  exact sum_any s w hs

set_option maxHeartbeats 400000 in
theorem crcShown (w : World) :
    Calls Try.prog 12 #[] w fun e w' => e = .returned (.bool true) ∧ Below w.heap.size w w' := by
  have s1 := Lib.hid (sum_lit ⟨#[49, 50, 51, 52, 53, 54, 55, 56, 57]⟩ 3421780262 (by decide +kernel) (by decide))
  have s2 := Lib.hid (sum_lit ⟨#[]⟩ 0 (by decide +kernel) (by decide))
  have s3 := Lib.hid (sum_lit ⟨#[97]⟩ 3904355907 (by decide +kernel) (by decide))
  go_enter Try.func12, Try.ntmps12
  go_wp2_with fail
  refine (s1.out _).mono ?_
  rintro e w1 ⟨rfl, h1⟩
  go_wp2_with fail
  refine (s2.out _).mono ?_
  rintro e w2 ⟨rfl, h2⟩
  go_wp2_with fail
  refine (s3.out _).mono ?_
  rintro e w3 ⟨rfl, h3⟩
  go_wp2_with fail
  go_ret
  exact ⟨rfl, (h1.trans (h2.mono h1.size)).trans (h3.mono (Nat.le_trans h1.size h2.size))⟩
end Go.Proofs.Ytapeeajneikoeaa
