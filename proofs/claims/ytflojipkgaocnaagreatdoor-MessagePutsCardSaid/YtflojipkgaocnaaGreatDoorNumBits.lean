/-
  What the walk makes of the bit operations of package num, said of natural numbers.
-/
import Derived.Test.YtflojipkgaocnaaGreatDoorNumPlain
import Derived.Laws.BitsAllLaws
import Derived.Laws.BitsLemmas
namespace Go.Proofs.YtflojipkgaocnaaGreatDoor

theorem or_disjoint (a b n : Nat) (ha : a < 2 ^ n) : a ||| b * 2 ^ n = a + b * 2 ^ n := by
  rw [Nat.or_comm, Nat.mul_comm b, ← Nat.two_pow_add_eq_or_of_lt ha, Nat.add_comm]

/-- 'byte(n) | 128'. -/
theorem u8_more (q : Nat) : bits .or .u8 ((q : Int) % 256) 128 = ((UInt8.ofNat (q % 128 + 128)).toNat : Int) := by
  rw [toNat_of (show q % 128 + 128 < 256 by omega), show ((q : Int) % 256) = ((q % 256 : Nat) : Int) by omega]
  have h := u8_or_nat (q % 256) 128 (by omega) (by omega)
  have e : q % 256 ||| 128 = q % 128 + 128 := by
    have h1 := Nat.two_pow_add_eq_or_of_lt (i := 7) (b := q % 128) (by omega) (q % 256 / 128)
    have h2 : 2 ^ 7 * (q % 256 / 128) + q % 128 = q % 256 := by omega
    rw [h2] at h1
    rw [h1, Nat.or_assoc, Nat.or_comm (q % 128) 128, ← Nat.or_assoc]
    have h3 : q % 256 / 128 = 0 ∨ q % 256 / 128 = 1 := by omega
    have h4 : 2 ^ 7 * (q % 256 / 128) ||| 128 = 128 := by rcases h3 with h | h <;> rw [h] <;> rfl
    rw [h4]
    have h5 := Nat.two_pow_add_eq_or_of_lt (i := 7) (b := q % 128) (by omega) 1
    have e7 : (2 : Nat) ^ 7 * 1 = 128 := rfl
    rw [e7] at h5
    omega
  rw [← e]
  exact h

theorem u8_last {q : Nat} (h : q < 128) : ((q : Int) % 256) = ((UInt8.ofNat q).toNat : Int) := by
  rw [toNat_of (by omega)]; omega

theorem u8_plain (q : Nat) (h : q < 256) : (q : Int) = ((UInt8.ofNat q).toNat : Int) := by
  rw [toNat_of h]

/-- 'c & 127'. -/
theorem u8_low7 (c : UInt8) : bits .and .u8 (c.toNat : Int) 127 = ((c.toNat % 128 : Nat) : Int) := by
  have hc : c.toNat < 256 := c.toNat_lt
  have h := u8_and_nat c.toNat 127 hc (by omega)
  have e := Nat.and_two_pow_sub_one_eq_mod c.toNat 7
  have e7 : (2 : Nat) ^ 7 = 128 := rfl
  rw [e7] at e
  have e127 : 128 - 1 = 127 := rfl
  rw [e127] at e
  rw [e] at h
  exact h

/-- 'c & 128'. -/
theorem u8_bit7 (c : UInt8) : bits .and .u8 (c.toNat : Int) 128 = if 128 ≤ c.toNat then 128 else 0 := by
  have hc : c.toNat < 256 := c.toNat_lt
  have h := u8_and_nat c.toNat 128 hc (by omega)
  have e : c.toNat &&& 128 = if 128 ≤ c.toNat then 128 else 0 := by
    apply Nat.eq_of_testBit_eq
    intro i
    rw [Nat.testBit_and, show (128 : Nat) = 2 ^ 7 from rfl, Nat.testBit_two_pow]
    by_cases hi : 7 = i
    · subst hi
      have : c.toNat.testBit 7 = decide (128 ≤ c.toNat) := by
        rw [Nat.testBit_eq_decide_div_mod_eq]
        have e7 : (2 : Nat) ^ 7 = 128 := rfl
        rw [e7]
        by_cases h1 : 128 ≤ c.toNat
        · have : c.toNat / 128 % 2 = 1 := by omega
          simp [h1, this]
        · have : c.toNat / 128 % 2 = 0 := by omega
          simp [h1, this]
      rw [this]
      have e7 : (2 : Nat) ^ 7 = 128 := rfl
      by_cases h1 : 128 ≤ c.toNat
      · rw [e7]; simp [h1]; decide
      · rw [e7]; simp [h1]
    · by_cases h1 : 128 ≤ c.toNat
      · have : (2 ^ 7 : Nat).testBit i = false := by rw [Nat.testBit_two_pow]; simp [hi]
        have e7 : (2 : Nat) ^ 7 = 128 := rfl
        rw [e7] at this ⊢
        simp [h1, hi, this]
      · have e7 : (2 : Nat) ^ 7 = 128 := rfl
        rw [e7]
        simp [h1, hi]
  rw [e] at h
  rw [show bits .and .u8 (c.toNat : Int) 128 = _ from h]
  split <;> rfl

theorem ofInt_i64n (a : Nat) (ha : a < 9223372036854775808) : (BitVec.ofInt 64 (a : Int)).toNat = a := by
  rw [BitVec.ofInt_natCast, BitVec.toNat_ofNat]; exact Nat.mod_eq_of_lt (by omega)
theorem i64_or_nat (a b : Nat) (ha : a < 9223372036854775808) (hb : b < 9223372036854775808) : bits .or .i64 (a : Int) (b : Int) = ((a ||| b : Nat) : Int) := by
  have hx : a ||| b < 2 ^ 63 := Nat.or_lt_two_pow (by omega) (by omega)
  show IntKind.i64.wrap ((BitVec.ofInt 64 (a : Int) ||| BitVec.ofInt 64 (b : Int)).toNat : Int) = _
  rw [BitVec.toNat_or, ofInt_i64n a ha, ofInt_i64n b hb, IntKind.wrap_i64]
  omega
theorem i64_and_nat (a b : Nat) (ha : a < 9223372036854775808) (hb : b < 9223372036854775808) : bits .and .i64 (a : Int) (b : Int) = ((a &&& b : Nat) : Int) := by
  have hx : a &&& b < 2 ^ 63 := Nat.and_lt_two_pow _ (by omega)
  show IntKind.i64.wrap ((BitVec.ofInt 64 (a : Int) &&& BitVec.ofInt 64 (b : Int)).toNat : Int) = _
  rw [BitVec.toNat_and, ofInt_i64n a ha, ofInt_i64n b hb, IntKind.wrap_i64]
  omega
theorem i64_xor_zero (a : Nat) (ha : a < 9223372036854775808) : bits .xor .i64 (a : Int) 0 = (a : Int) := by
  show IntKind.i64.wrap ((BitVec.ofInt 64 (a : Int) ^^^ BitVec.ofInt 64 ((0 : Nat) : Int)).toNat : Int) = _
  rw [BitVec.toNat_xor, ofInt_i64n a ha, ofInt_i64n 0 (by omega), Nat.xor_zero, IntKind.wrap_i64]
  omega

/-- 'x ^ -1' is '-x - 1'. -/
theorem i64_xor_neg (x : Int) (h1 : -9223372036854775808 ≤ x) (h2 : x ≤ 9223372036854775807) : bits .xor .i64 x (-1) = -x - 1 := by
  show IntKind.i64.wrap ((BitVec.ofInt 64 x ^^^ BitVec.ofInt 64 (-1)).toNat : Int) = _
  have e : BitVec.ofInt 64 x ^^^ BitVec.ofInt 64 (-1) = ~~~ (BitVec.ofInt 64 x) := by
    have : BitVec.ofInt 64 (-1) = BitVec.allOnes 64 := by decide
    rw [this, BitVec.xor_allOnes]
  rw [e, BitVec.toNat_not, BitVec.toNat_ofInt, IntKind.wrap_i64]
  have e64 : (2 : Nat) ^ 64 = 18446744073709551616 := rfl
  rw [e64]
  omega

end Go.Proofs.YtflojipkgaocnaaGreatDoor
