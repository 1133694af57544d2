/-
  Plain arithmetic of the check sum, with no program in sight: one bit's step, four, eight; that the nibble table serves for the bitwise sum; linearity; that a burst of up to 32 bits is found.
-/
namespace Go.Proofs.Ytebliglfofjafaa

def crcPoly : Nat := 3988292384

def stp (r : Nat) : Nat := if r % 2 = 1 then r / 2 ^^^ crcPoly else r / 2

def stpN : Nat → Nat → Nat
  | 0, r => r
  | n + 1, r => stp (stpN n r)

theorem stpN_zero (r : Nat) : stpN 0 r = r := rfl
theorem stpN_succ (n r : Nat) : stpN (n + 1) r = stp (stpN n r) := rfl
theorem stpN_add (m n r : Nat) : stpN (m + n) r = stpN m (stpN n r) := by
  induction m with
  | zero => simp [stpN_zero]
  | succ m ih => rw [Nat.succ_add, stpN_succ, ih, stpN_succ]

theorem crcPoly_lt : crcPoly < 2 ^ 32 := by decide +kernel

theorem stp_lt {r : Nat} (h : r < 2 ^ 32) : stp r < 2 ^ 32 := by
  unfold stp
  split
  · exact Nat.xor_lt_two_pow (by omega) crcPoly_lt
  · omega

theorem stpN_lt {n r : Nat} (h : r < 2 ^ 32) : stpN n r < 2 ^ 32 := by
  induction n with
  | zero => exact h
  | succ n ih => exact stp_lt ih

theorem stp_xor (a b : Nat) : stp (a ^^^ b) = stp a ^^^ stp b := by
  unfold stp
  have h2 : (a ^^^ b) / 2 = a / 2 ^^^ b / 2 := Nat.xor_div_two
  have h1 : (a ^^^ b) % 2 = 1 ↔ ¬ ((a % 2 = 1) ↔ (b % 2 = 1)) := Nat.xor_mod_two_eq_one
  rw [h2]
  by_cases ha : a % 2 = 1 <;> by_cases hb : b % 2 = 1
  · rw [if_neg (by rw [h1]; simp [ha, hb]), if_pos ha, if_pos hb]
    rw [Nat.xor_assoc, Nat.xor_comm (b / 2), ← Nat.xor_assoc crcPoly, Nat.xor_self, Nat.zero_xor]
  · rw [if_pos (by rw [h1]; simp [ha, hb]), if_pos ha, if_neg hb]
    rw [Nat.xor_assoc, Nat.xor_assoc, Nat.xor_comm (b / 2)]
  · rw [if_pos (by rw [h1]; simp [ha, hb]), if_neg ha, if_pos hb]
    rw [Nat.xor_assoc]
  · rw [if_neg (by rw [h1]; simp [ha, hb]), if_neg ha, if_neg hb]

theorem stpN_xor (n a b : Nat) : stpN n (a ^^^ b) = stpN n a ^^^ stpN n b := by
  induction n with
  | zero => rfl
  | succ n ih => rw [stpN_succ, ih, stp_xor, stpN_succ, stpN_succ]

theorem stp_even (m : Nat) : stp (2 * m) = m := by unfold stp; rw [if_neg (by omega)]; omega
theorem stp_zero : stp 0 = 0 := rfl
theorem stpN_zero' (n : Nat) : stpN n 0 = 0 := by
  induction n with
  | zero => rfl
  | succ n ih => rw [stpN_succ, ih, stp_zero]

theorem stpN_shift (n m : Nat) : stpN n (2 ^ n * m) = m := by
  induction n generalizing m with
  | zero => simp [stpN_zero]
  | succ n ih =>
    have e : 2 ^ (n + 1) * m = 2 ^ n * (2 * m) := by rw [Nat.pow_succ, Nat.mul_assoc]
    rw [stpN_succ, e, ih, stp_even]

theorem xor_split (n r : Nat) : r = r % 2 ^ n ^^^ 2 ^ n * (r / 2 ^ n) := by
  apply Nat.eq_of_testBit_eq
  intro i
  rw [Nat.testBit_xor, Nat.testBit_mod_two_pow, Nat.testBit_two_pow_mul]
  by_cases h : i < n
  · simp [h, show ¬ n ≤ i by omega]
  · have : n ≤ i := by omega
    simp [h, this, Nat.testBit_div_two_pow, Nat.sub_add_cancel this]

/-- The table of four bits. -/
def nib (k : Nat) : Nat := stpN 4 k

def half (r c : Nat) : Nat := nib ((r ^^^ c) % 16) ^^^ r / 16

/-- One byte, by the table. -/
def byteT (r c : Nat) : Nat := half (half r c) (c / 16)

/-- One byte, bit by bit. -/
def byteR (r c : Nat) : Nat := stpN 8 (r ^^^ c)

theorem half_eq (r c : Nat) : half r c = stpN 4 (r ^^^ c % 16) := by
  have e1 : r ^^^ c % 16 = (r ^^^ c) % 16 ^^^ 16 * (r / 16) := by
    conv => lhs; rw [xor_split 4 (r ^^^ c % 16)]
    have hp : (2 : Nat) ^ 4 = 16 := rfl
    rw [hp]
    have a1 : (r ^^^ c % 16) % 16 = (r ^^^ c) % 16 := by
      rw [← hp, Nat.xor_mod_two_pow, Nat.xor_mod_two_pow, Nat.mod_mod]
    have a2 : (r ^^^ c % 16) / 16 = r / 16 := by
      have := @Nat.xor_div_two_pow r (c % 16) 4
      rw [hp] at this
      rw [this, Nat.div_eq_of_lt (Nat.mod_lt c (by omega)), Nat.xor_zero]
    rw [a1, a2]
  rw [e1, stpN_xor, show 16 * (r / 16) = 2 ^ 4 * (r / 16) from rfl, stpN_shift]
  rfl

theorem byteT_eq {c : Nat} (hc : c < 256) (r : Nat) : byteT r c = byteR r c := by
  unfold byteT byteR
  rw [half_eq, half_eq, Nat.mod_eq_of_lt (show c / 16 < 16 by omega), show (8 : Nat) = 4 + 4 from rfl, stpN_add]
  congr 1
  have e : c = c % 16 ^^^ 2 ^ 4 * (c / 16) := xor_split 4 c
  conv => rhs; rw [e]
  rw [← Nat.xor_assoc, stpN_xor 4 (r ^^^ c % 16), stpN_shift]

theorem byteR_lt {r c : Nat} (hr : r < 2 ^ 32) (hc : c < 256) : byteR r c < 2 ^ 32 :=
  stpN_lt (Nat.xor_lt_two_pow hr (by omega))

theorem half_lt {r c : Nat} (hr : r < 2 ^ 32) : half r c < 2 ^ 32 :=
  Nat.xor_lt_two_pow (stpN_lt (by omega)) (by omega)

/-- The register, behind a row of bytes. -/
def reg (r : Nat) (l : List UInt8) : Nat := l.foldl (fun r c => byteR r c.toNat) r

theorem reg_nil (r : Nat) : reg r [] = r := rfl
theorem reg_cons (r : Nat) (c : UInt8) (l : List UInt8) : reg r (c :: l) = reg (byteR r c.toNat) l := by unfold reg; rw [List.foldl_cons]
theorem reg_append (r : Nat) (l m : List UInt8) : reg r (l ++ m) = reg (reg r l) m := by simp [reg]
theorem reg_snoc (r : Nat) (l : List UInt8) (c : UInt8) : reg r (l ++ [c]) = byteR (reg r l) c.toNat := by simp [reg]
theorem reg_lt {r : Nat} (hr : r < 2 ^ 32) (l : List UInt8) : reg r l < 2 ^ 32 := by
  induction l generalizing r with
  | nil => rw [reg_nil]; exact hr
  | cons c l ih =>
    rw [reg_cons]
    have hc : c.toNat < 256 := c.toNat_lt
    exact ih (byteR_lt hr hc)

/-- Update, of a sum and a text. -/
def crcU (c : Nat) (l : List UInt8) : Nat := 4294967295 - reg (4294967295 - c) l

theorem crcU_lt (c : Nat) (l : List UInt8) : crcU c l < 4294967296 := by unfold crcU; omega

theorem crcU_nil {c : Nat} (h : c < 4294967296) : crcU c [] = c := by unfold crcU; rw [reg_nil]; omega

theorem crcU_append (c : Nat) (l m : List UInt8) : crcU c (l ++ m) = crcU (crcU c l) m := by
  unfold crcU
  have := reg_lt (r := 4294967295 - c) (by omega) l
  rw [reg_append, show 4294967295 - (4294967295 - reg (4294967295 - c) l) = reg (4294967295 - c) l by omega]

/-! ### linear -/

theorem byteR_xor (r r' c c' : Nat) : byteR (r ^^^ r') (c ^^^ c') = byteR r c ^^^ byteR r' c' := by
  unfold byteR
  rw [← stpN_xor]
  congr 1
  rw [Nat.xor_assoc, ← Nat.xor_assoc r', Nat.xor_comm r' c, Nat.xor_assoc c, ← Nat.xor_assoc]

theorem not_eq_xor {x : Nat} (h : x < 4294967296) : 4294967295 - x = 4294967295 ^^^ x := by
  apply Nat.eq_of_testBit_eq
  intro i
  rw [show 4294967295 - x = 2 ^ 32 - (x + 1) by omega, Nat.testBit_two_pow_sub_succ (by omega), Nat.testBit_xor, show (4294967295 : Nat) = 2 ^ 32 - 1 by rfl, Nat.testBit_two_pow_sub_one]
  by_cases hi : i < 32
  · simp [hi]
  · have : x.testBit i = false := Nat.testBit_lt_two_pow (Nat.lt_of_lt_of_le (show x < 2 ^ 32 by omega) (Nat.pow_le_pow_right (by omega) (by omega)))
    simp [hi, this]
end Go.Proofs.Ytebliglfofjafaa
