/-
  What the walk makes of the bit operations of package crc and of its reference, said of natural numbers.
-/
import Derived.Test.YtebliglfofjafaaCrcPlain
import Derived.Laws.BitsAllLaws
import Derived.Laws.BitsLemmas
namespace Go.Proofs.Ytebliglfofjafaa

theorem u32_low (r : Nat) (h : r < 4294967296) : bits .and .u32 (r : Int) 1 = ((r % 2 : Nat) : Int) := by
  have := u32_and_nat r 1 h (by omega)
  rw [Nat.and_one_is_mod] at this
  exact this

theorem u32_odd {r : Nat} (h : r < 4294967296) (ho : (bits .and .u32 (r : Int) 1 == 1) = true) : r % 2 = 1 := by
  rw [u32_low r h] at ho
  have := eq_of_beq ho
  omega

theorem u32_even {r : Nat} (h : r < 4294967296) (ho : (bits .and .u32 (r : Int) 1 == 1) = false) : ¬ r % 2 = 1 := by
  rw [u32_low r h] at ho
  intro e
  rw [e] at ho
  exact absurd ho (by decide)

theorem u32_poly (r : Nat) (h : r < 4294967296) : bits .xor .u32 ((r : Int) / 2) 3988292384 = ((r / 2 ^^^ crcPoly : Nat) : Int) := by
  have := u32_xor_nat (r / 2) 3988292384 (by omega) (by omega)
  rw [show ((r : Int) / 2) = ((r / 2 : Nat) : Int) by omega]
  exact this

theorem u32_not (c : Nat) (h : c < 4294967296) : bits .xor .u32 IntKind.u32.max (c : Int) = ((4294967295 - c : Nat) : Int) := by
  have e : IntKind.u32.max = ((4294967295 : Nat) : Int) := by decide
  rw [e, u32_xor_nat 4294967295 c (by omega) h, ← not_eq_xor h]

theorem u32_byte (r : Nat) (b : UInt8) (h : r < 4294967296) : bits .xor .u32 (r : Int) ((b.toNat : Int) % 4294967296) = ((r ^^^ b.toNat : Nat) : Int) := by
  have hb : b.toNat < 256 := b.toNat_lt
  rw [show ((b.toNat : Int) % 4294967296) = ((b.toNat : Nat) : Int) by omega, u32_xor_nat r b.toNat h (by omega)]

theorem stp_odd {r : Nat} (h : r % 2 = 1) : stp r = r / 2 ^^^ crcPoly := by unfold stp; rw [if_pos h]
theorem stp_of_even {r : Nat} (h : ¬ r % 2 = 1) : stp r = r / 2 := by unfold stp; rw [if_neg h]

theorem u8_nib (r x : Nat) (hx : x < 256) : bits .and .u8 (bits .xor .u8 ((r : Int) % 256) (x : Int)) 15 = (((r ^^^ x) % 16 : Nat) : Int) := by
  have h8 : r % 256 ^^^ x < 2 ^ 8 := Nat.xor_lt_two_pow (by omega) (by omega)
  rw [show ((r : Int) % 256) = ((r % 256 : Nat) : Int) by omega, u8_xor_nat (r % 256) x (by omega) hx, u8_and15 (x := ((r % 256 ^^^ x : Nat) : Int)) (by omega) (by omega)]
  have e : (r % 256 ^^^ x) % 2 ^ 4 = (r ^^^ x) % 2 ^ 4 := by
    rw [Nat.xor_mod_two_pow, Nat.xor_mod_two_pow, Nat.mod_mod_of_dvd r (by decide : 2 ^ 4 ∣ 256)]
  have e16 : (2 : Nat) ^ 4 = 16 := rfl
  rw [e16] at e
  omega

theorem nib_lt {n : Nat} (h : n < 16) : nib n < 4294967296 := stpN_lt (n := 4) (r := n) (by omega)

theorem u32_half (n r : Nat) (hn : n < 16) (hr : r < 4294967296) : bits .xor .u32 (nib n : Int) ((r : Int) / 16) = ((nib n ^^^ r / 16 : Nat) : Int) := by
  rw [show ((r : Int) / 16) = ((r / 16 : Nat) : Int) by omega, u32_xor_nat (nib n) (r / 16) (nib_lt hn) (by omega)]

end Go.Proofs.Ytebliglfofjafaa
