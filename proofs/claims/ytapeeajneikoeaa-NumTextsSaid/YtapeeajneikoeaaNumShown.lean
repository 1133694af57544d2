/-
  Chapter 2's examples hold; the contracts at texts that are named.
-/
import Derived.Test.YtapeeajneikoeaaNumTake2
namespace Go.Proofs.Ytapeeajneikoeaa
open Go.RowKit

theorem put_lit (n : Int) (r : ByteArray) (h : bstr (putN (clampN n)) = r) (w : World) :
    Calls Try.prog 19 #[.int .i64 n] w fun e w' => e = .returned (.string r) ∧ Below w.heap.size w w' := by
  subst h
  exact put_any n w

theorem take_str (s : ByteArray) (n : Nat) (r : ByteArray) (e : Nat) (h : takeN s.data.toList = (n, r.data.toList, e)) (hs : s.size ≤ maxLen) (w : World) :
    Calls Try.prog 18 #[.string s] w fun en w' => en = .returned (.tuple #[.int .i64 n, .string r, .int .i64 e]) ∧ Below w.heap.size w w' :=
  take_lit s n r.data.toList e h hs w

theorem takeText_str (s : ByteArray) (most : Int) (t r : ByteArray) (e : Nat) (h : takeT s.data.toList most = (t.data.toList, r.data.toList, e)) (hs : s.size ≤ maxLen) (w : World) :
    Calls Try.prog 21 #[.string s, .int .i64 most] w fun en w' => en = .returned (.tuple #[.string t, .string r, .int .i64 e]) ∧ Below w.heap.size w w' :=
  takeText_lit s most t.data.toList r.data.toList e h hs w

set_option maxHeartbeats 400000 in
theorem numShown (w : World) :
    Calls Try.prog 17 #[] w fun e w' => e = .returned (.bool true) ∧ Below w.heap.size w w' := by
  have c1 := Lib.hid (take_str ⟨#[172, 2, 9]⟩ 300 ⟨#[9]⟩ 0 (by decide +kernel) (by decide))
  have c2 := Lib.hid (take_str ⟨#[128, 0]⟩ 0 ⟨#[]⟩ 2 (by decide +kernel) (by decide))
  have c3 := Lib.hid (take_str ⟨#[128]⟩ 0 ⟨#[]⟩ 3 (by decide +kernel) (by decide))
  have c4 := Lib.hid (takeText_str ⟨#[2, 97]⟩ 9 ⟨#[]⟩ ⟨#[]⟩ 3 (by decide +kernel) (by decide))
  have c5 := Lib.hid (put_lit 300 ⟨#[172, 2]⟩ (by
    rw [show clampN 300 = 300 by decide, putN_large (by omega), putN_small (by omega)]; decide))
  go_enter Try.func17, Try.ntmps17
  go_wp2_with fail
  refine (c1.out _).mono ?_
  rintro e w1 ⟨rfl, h1⟩
  go_wp2_with fail
  refine (c2.out _).mono ?_
  rintro e w2 ⟨rfl, h2⟩
  go_wp2_with fail
  refine (c3.out _).mono ?_
  rintro e w3 ⟨rfl, h3⟩
  go_wp2_with fail
  refine (c4.out _).mono ?_
  rintro e w4 ⟨rfl, h4⟩
  go_wp2_with fail
  refine (c5.out _).mono ?_
  rintro e w5 ⟨rfl, h5⟩
  go_wp2_with fail
  go_ret
  exact ⟨rfl, bstep (bstep (bstep (bstep h1 h2) h3) h4) h5⟩
end Go.Proofs.Ytapeeajneikoeaa
