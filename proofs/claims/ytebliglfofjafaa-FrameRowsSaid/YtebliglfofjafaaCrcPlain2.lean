/-
  Plain arithmetic of the check sum, second part: a row of bytes as one number; three texts xored; a burst of up to 32 bits.
-/
import Derived.Test.YtebliglfofjafaaCrcPlain
namespace Go.Proofs.Ytebliglfofjafaa

/-! ### a row of bytes as one number -/
def numL : List UInt8 → Nat
  | [] => 0
  | c :: l => c.toNat ^^^ 256 * numL l

theorem shl_xor (n a b : Nat) : 2 ^ n * (a ^^^ b) = 2 ^ n * a ^^^ 2 ^ n * b := by
  apply Nat.eq_of_testBit_eq
  intro i
  rw [Nat.testBit_xor, Nat.testBit_two_pow_mul, Nat.testBit_two_pow_mul, Nat.testBit_two_pow_mul, Nat.testBit_xor]
  cases decide (n ≤ i) <;> rfl

theorem reg_num (r : Nat) (l : List UInt8) : reg r l = stpN (8 * l.length) (r ^^^ numL l) := by
  induction l generalizing r with
  | nil => rw [reg_nil, numL, Nat.xor_zero]; rfl
  | cons c l ih =>
    rw [reg_cons, ih, List.length_cons, Nat.mul_add, Nat.mul_one, stpN_add, numL]
    congr 1
    rw [← Nat.xor_assoc, stpN_xor 8 (r ^^^ c.toNat), show (256 : Nat) = 2 ^ 8 from rfl, stpN_shift]
    rfl

theorem numL_inj : ∀ (l m : List UInt8), l.length = m.length → numL l = numL m → l = m
  | [], [], _, _ => rfl
  | [], _ :: _, h, _ => by simp at h
  | _ :: _, [], h, _ => by simp at h
  | c :: l, d :: m, h, e => by
    have e1 : c.toNat ^^^ 256 * numL l = d.toNat ^^^ 256 * numL m := e
    have hc : c.toNat < 256 := c.toNat_lt
    have hd : d.toNat < 256 := d.toNat_lt
    have low : ∀ x y : Nat, x < 256 → (x ^^^ 256 * y) % 2 ^ 8 = x := fun x y hx => by
      rw [Nat.xor_mod_two_pow, show (2 : Nat) ^ 8 = 256 from rfl, Nat.mul_mod_right, Nat.mod_eq_of_lt hx, Nat.xor_zero]
    have high : ∀ x y : Nat, x < 256 → (x ^^^ 256 * y) / 2 ^ 8 = y := fun x y hx => by
      rw [Nat.xor_div_two_pow, show (2 : Nat) ^ 8 = 256 from rfl, Nat.div_eq_of_lt hx, Nat.zero_xor, Nat.mul_div_cancel_left _ (by omega)]
    have h1 : c.toNat = d.toNat := by rw [← low c.toNat (numL l) hc, e1, low _ _ hd]
    have h2 : numL l = numL m := by rw [← high c.toNat (numL l) hc, e1, high _ _ hd]
    rw [UInt8.toNat_inj.1 h1, numL_inj l m (by simpa using h) h2]

theorem numL_set : ∀ (l : List UInt8) (q : Nat) (m : UInt8), (h : q < l.length) → numL (l.set q (l[q] ^^^ m)) = numL l ^^^ 2 ^ (8 * q) * m.toNat
  | [], _, _, h => by simp at h
  | c :: l, 0, m, _ => by
    simp only [List.set_cons_zero, List.getElem_cons_zero, numL, UInt8.toNat_xor, Nat.mul_zero, Nat.pow_zero, Nat.one_mul]
    rw [Nat.xor_assoc, Nat.xor_comm m.toNat, ← Nat.xor_assoc]
  | c :: l, q + 1, m, h => by
    have hq : q < l.length := by simpa using h
    simp only [List.set_cons_succ, List.getElem_cons_succ, numL]
    rw [numL_set l q m hq, show (256 : Nat) = 2 ^ 8 from rfl, shl_xor, ← Nat.mul_assoc, ← Nat.pow_add, show 8 + 8 * q = 8 * (q + 1) by omega, Nat.xor_assoc]

/-! ### a step loses nothing -/
theorem stp_eq_zero {r : Nat} (h : r < 2 ^ 32) (e : stp r = 0) : r = 0 := by
  unfold stp at e
  split at e
  · have : r / 2 = crcPoly := by
      have h1 : (r / 2 ^^^ crcPoly) ^^^ crcPoly = 0 ^^^ crcPoly := by rw [e]
      rw [Nat.xor_assoc, Nat.xor_self, Nat.xor_zero, Nat.zero_xor] at h1
      exact h1
    unfold crcPoly at this
    omega
  · omega

theorem stpN_eq_zero {r : Nat} (h : r < 2 ^ 32) (n : Nat) (e : stpN n r = 0) : r = 0 := by
  induction n with
  | zero => exact e
  | succ n ih => exact ih (stp_eq_zero (stpN_lt h) e)

/-! ### a burst -/
theorem xor_right_inj {a b c : Nat} (h : a ^^^ b = a ^^^ c) : b = c := by
  have h1 : a ^^^ (a ^^^ b) = a ^^^ (a ^^^ c) := by rw [h]
  rw [← Nat.xor_assoc, ← Nat.xor_assoc, Nat.xor_self, Nat.zero_xor, Nat.zero_xor] at h1
  exact h1

theorem reg_eq_of (r : Nat) (s t : List UInt8) (x : Nat) (hl : t.length = s.length) (ht : numL t = numL s ^^^ x) : reg r t = reg r s ^^^ stpN (8 * s.length) x := by
  rw [reg_num, reg_num, hl, ht, ← Nat.xor_assoc, stpN_xor]

theorem burst (c : Nat) (s t : List UInt8) (a E : Nat) (hc : c < 4294967296) (hl : t.length = s.length) (ht : numL t = numL s ^^^ 2 ^ a * E) (ha : a ≤ 8 * s.length) (hE : E < 2 ^ 32) :
    (t = s ↔ crcU c s = crcU c t) := by
  have hr : 4294967295 - c < 2 ^ 32 := by omega
  have h1 := reg_lt hr s
  have h2 := reg_lt hr t
  have e := reg_eq_of (4294967295 - c) s t _ hl ht
  have e2 : stpN (8 * s.length) (2 ^ a * E) = stpN (8 * s.length - a) E := by
    conv => lhs; rw [show 8 * s.length = (8 * s.length - a) + a by omega]
    rw [stpN_add, stpN_shift]
  rw [e2] at e
  constructor
  · rintro rfl; rfl
  · intro h
    have h3 : reg (4294967295 - c) s = reg (4294967295 - c) t := by unfold crcU at h; omega
    rw [e] at h3
    have h4 : reg (4294967295 - c) s ^^^ 0 = reg (4294967295 - c) s ^^^ stpN (8 * s.length - a) E := by rw [Nat.xor_zero]; exact h3
    have h5 := stpN_eq_zero hE _ (xor_right_inj h4).symm
    apply numL_inj _ _ hl
    rw [ht, h5, Nat.mul_zero, Nat.xor_zero]

/-! ### the bits of a burst, one by one -/
theorem mod_bit_off {b i : Nat} (h : b / 2 ^ i % 2 = 0) : b % 2 ^ (i + 1) = b % 2 ^ i := by
  rw [Nat.mod_pow_succ, h, Nat.mul_zero, Nat.add_zero]

theorem mod_bit_on {b i : Nat} (h : b / 2 ^ i % 2 = 1) : b % 2 ^ (i + 1) = b % 2 ^ i ^^^ 2 ^ i := by
  apply Nat.eq_of_testBit_eq
  intro j
  rw [Nat.testBit_xor, Nat.testBit_mod_two_pow, Nat.testBit_mod_two_pow, Nat.testBit_two_pow]
  have hb : b.testBit i = true := by rw [Nat.testBit_eq_decide_div_mod_eq, h]; rfl
  by_cases e : i = j
  · subst e; simp [hb]
  · by_cases l : j < i
    · simp [l, e, show j < i + 1 by omega]
    · simp [l, e, show ¬ j < i + 1 by omega]

theorem flip_num (l : List UInt8) (q r : Nat) (h : q < l.length) (hr : r < 8) : numL (l.set q (l[q] ^^^ UInt8.ofNat (2 ^ r))) = numL l ^^^ 2 ^ (8 * q + r) := by
  have hp : 2 ^ r < 256 := Nat.pow_lt_pow_right (a := 2) (n := 8) (by omega) hr
  rw [numL_set l q _ h, UInt8.toNat_ofNat', Nat.mod_eq_of_lt hp, ← Nat.pow_add]

theorem burst_step_on (s l : List UInt8) (a b i q r : Nat) (h : q < l.length) (hr : r < 8) (e : a + i = 8 * q + r) (hb : b / 2 ^ i % 2 = 1) (hn : numL l = numL s ^^^ 2 ^ a * (b % 2 ^ i)) :
    numL (l.set q (l[q] ^^^ UInt8.ofNat (2 ^ r))) = numL s ^^^ 2 ^ a * (b % 2 ^ (i + 1)) := by
  rw [flip_num l q r h hr, hn, mod_bit_on hb, shl_xor, ← e, Nat.pow_add, Nat.xor_assoc]

/-! ### three texts -/
def x3 (a b c : List UInt8) : List UInt8 := List.zipWith (· ^^^ ·) (List.zipWith (· ^^^ ·) a b) c

theorem reg_x3 : ∀ (a b c : List UInt8) (p q r : Nat), a.length = b.length → b.length = c.length → reg (p ^^^ q ^^^ r) (x3 a b c) = reg p a ^^^ reg q b ^^^ reg r c
  | [], [], [], p, q, r, _, _ => rfl
  | [], _ :: _, _, _, _, _, h, _ => by simp at h
  | _ :: _, [], _, _, _, _, h, _ => by simp at h
  | _, [], _ :: _, _, _, _, _, h => by simp at h
  | _, _ :: _, [], _, _, _, _, h => by simp at h
  | x :: a, y :: b, z :: c, p, q, r, h, k => by
    have e : x3 (x :: a) (y :: b) (z :: c) = (x ^^^ y ^^^ z) :: x3 a b c := rfl
    rw [e, reg_cons, reg_cons, reg_cons, reg_cons, UInt8.toNat_xor, UInt8.toNat_xor, byteR_xor, byteR_xor]
    exact reg_x3 a b c _ _ _ (by simpa using h) (by simpa using k)

theorem crcU_x3 (a b c : List UInt8) (h : a.length = b.length) (k : b.length = c.length) : crcU 0 (x3 a b c) = crcU 0 a ^^^ crcU 0 b ^^^ crcU 0 c := by
  have l : ∀ x : List UInt8, crcU 0 x = 4294967295 ^^^ reg 4294967295 x := fun x => by
    have := reg_lt (r := 4294967295) (by omega) x
    unfold crcU
    rw [Nat.sub_zero, not_eq_xor (by omega)]
  have e := reg_x3 a b c 4294967295 4294967295 4294967295 h k
  rw [Nat.xor_self, Nat.zero_xor] at e
  rw [l, l, l, l, e]
  generalize reg 4294967295 a = A
  generalize reg 4294967295 b = B
  generalize reg 4294967295 c = C
  have hF : ∀ x : Nat, (4294967295 ^^^ x) ^^^ (4294967295 ^^^ B) = x ^^^ B := fun x => by
    rw [Nat.xor_comm 4294967295 x, Nat.xor_assoc, ← Nat.xor_assoc 4294967295, Nat.xor_self, Nat.zero_xor]
  rw [hF, ← Nat.xor_assoc (A ^^^ B), Nat.xor_comm (A ^^^ B) 4294967295, Nat.xor_assoc 4294967295]
end Go.Proofs.Ytebliglfofjafaa
