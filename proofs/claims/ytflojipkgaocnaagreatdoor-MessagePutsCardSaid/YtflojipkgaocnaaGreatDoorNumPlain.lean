/-
  Numbers and texts as bytes, plainly: what Put and Take compute, and that each undoes the other.
-/
namespace Go.Proofs.YtflojipkgaocnaaGreatDoor

/-- The bytes of a number: seven bits each, the lowest first. -/
def putN (n : Nat) : List UInt8 :=
  if h : n < 128 then [UInt8.ofNat n] else UInt8.ofNat (n % 128 + 128) :: putN (n / 128)
termination_by n
decreasing_by omega

theorem putN_small {n : Nat} (h : n < 128) : putN n = [UInt8.ofNat n] := by rw [putN, dif_pos h]
theorem putN_large {n : Nat} (h : ¬ n < 128) : putN n = UInt8.ofNat (n % 128 + 128) :: putN (n / 128) := by rw [putN, dif_neg h]

def maxNum : Nat := 1099511627776
theorem maxNum_val : maxNum = 1099511627776 := rfl

/-- Take, from the i-th byte on, with what the bytes ahead of it have given: the number, what is behind, the error. -/
def takeGo : Nat → Nat → List UInt8 → Nat × List UInt8 × Nat
  | _, _, [] => (0, [], 3)
  | i, acc, c :: l =>
    if i = 6 then (0, [], 2)
    else if 128 ≤ c.toNat then takeGo (i + 1) (acc + c.toNat % 128 * 128 ^ i) l
    else if c.toNat = 0 ∧ 0 < i then (0, [], 2)
    else if maxNum < acc + c.toNat % 128 * 128 ^ i then (0, [], 4)
    else (acc + c.toNat % 128 * 128 ^ i, l, 0)

def takeN (l : List UInt8) : Nat × List UInt8 × Nat := takeGo 0 0 l

theorem takeGo_nil (i acc : Nat) : takeGo i acc [] = (0, [], 3) := rfl

theorem toNat_of {n : Nat} (h : n < 256) : (UInt8.ofNat n).toNat = n := by
  rw [UInt8.toNat_ofNat']; exact Nat.mod_eq_of_lt h

theorem putN_pos (n : Nat) : 0 < (putN n).length := by
  rw [putN]; split <;> simp

theorem putN_len : ∀ (k n : Nat), n < 128 ^ (k + 1) → (putN n).length ≤ k + 1
  | 0, n, h => by rw [putN_small (by simpa using h)]; simp
  | k + 1, n, h => by
    by_cases hs : n < 128
    · rw [putN_small hs]; simp
    · rw [putN_large hs, List.length_cons]
      have : n / 128 < 128 ^ (k + 1) := by
        rw [Nat.pow_succ] at h
        exact Nat.div_lt_of_lt_mul (by omega)
      have := putN_len k (n / 128) this
      omega

theorem putN_len6 {n : Nat} (h : n ≤ maxNum) : (putN n).length ≤ 6 := putN_len 5 n (by unfold maxNum at h; omega)

/-- What was put is taken, with what stands behind it. -/
theorem takeGo_put (m : List UInt8) : ∀ (k i acc n : Nat), i + k = 6 → n < 128 ^ k → (0 < i → 0 < n) → acc + n * 128 ^ i ≤ maxNum → takeGo i acc (putN n ++ m) = (acc + n * 128 ^ i, m, 0)
  | 0, i, acc, n, hk, hn, hi, _ => by
    have : n = 0 := by simpa using hn
    have := hi (by omega)
    omega
  | k + 1, i, acc, n, hk, hn, hi, hm => by
    by_cases hs : n < 128
    · rw [putN_small hs, List.cons_append, List.nil_append, takeGo, toNat_of (by omega), Nat.mod_eq_of_lt hs, if_neg (by omega), if_neg (by omega), if_neg (by omega), if_neg (by omega)]
    · have h128 : n % 128 + 128 < 256 := by omega
      rw [putN_large hs, List.cons_append, takeGo, toNat_of h128, if_neg (by omega), if_pos (by omega)]
      have e1 : (n % 128 + 128) % 128 = n % 128 := by omega
      have e2 : acc + n % 128 * 128 ^ i + n / 128 * 128 ^ (i + 1) = acc + n * 128 ^ i := by
        rw [Nat.pow_succ, Nat.mul_comm (128 ^ i) 128, ← Nat.mul_assoc, Nat.add_assoc, ← Nat.add_mul]
        congr 2
        omega
      rw [e1, takeGo_put m k (i + 1) _ (n / 128) (by omega) (by rw [Nat.pow_succ] at hn; exact Nat.div_lt_of_lt_mul (by omega)) (fun _ => by omega) (by rw [e2]; exact hm), e2]

theorem takeN_put {n : Nat} (h : n ≤ maxNum) (m : List UInt8) : takeN (putN n ++ m) = (n, m, 0) := by
  have := takeGo_put m 6 0 0 n rfl (by unfold maxNum at h; omega) (fun h => absurd h (by omega)) (by omega)
  rw [takeN, this]
  simp

/-- What is taken is the bytes of the number, and what is behind. -/
theorem takeGo_back : ∀ (l : List UInt8) (i acc n : Nat) (m : List UInt8), i ≤ 6 → acc < 128 ^ i → takeGo i acc l = (n, m, 0) →
    ∃ q, l = putN q ++ m ∧ n = acc + q * 128 ^ i ∧ n ≤ maxNum ∧ (0 < i → 0 < q) ∧ i + (putN q).length ≤ 6
  | [], i, acc, n, m, _, _, h => by rw [takeGo_nil] at h; simp at h
  | c :: l, i, acc, n, m, hi, ha, h => by
    have hc : c.toNat < 256 := c.toNat_lt
    rw [takeGo] at h
    by_cases h6 : i = 6
    · rw [if_pos h6] at h; simp at h
    · rw [if_neg h6] at h
      by_cases hb : 128 ≤ c.toNat
      · rw [if_pos hb] at h
        have hp : 0 < 128 ^ i := Nat.pow_pos (by omega)
        have hacc : acc + c.toNat % 128 * 128 ^ i < 128 ^ (i + 1) := by
          rw [Nat.pow_succ]
          have : c.toNat % 128 * 128 ^ i ≤ 127 * 128 ^ i := Nat.mul_le_mul_right _ (by omega)
          omega
        obtain ⟨q, e1, e2, e3, e4, e5⟩ := takeGo_back l (i + 1) _ n m (by omega) hacc h
        have hq := e4 (by omega)
        refine ⟨q * 128 + c.toNat % 128, ?_, ?_, e3, fun _ => by omega, ?_⟩
        · rw [putN_large (by omega), e1, show (q * 128 + c.toNat % 128) / 128 = q by omega, show (q * 128 + c.toNat % 128) % 128 + 128 = c.toNat by omega]
          simp
        · rw [e2, Nat.pow_succ, Nat.add_mul, Nat.mul_assoc q, Nat.mul_comm 128]
          omega
        · rw [putN_large (by omega), List.length_cons, show (q * 128 + c.toNat % 128) / 128 = q by omega]
          omega
      · rw [if_neg hb] at h
        by_cases hz : c.toNat = 0 ∧ 0 < i
        · rw [if_pos hz] at h; simp at h
        · rw [if_neg hz] at h
          by_cases hm : maxNum < acc + c.toNat % 128 * 128 ^ i
          · rw [if_pos hm] at h; simp at h
          · rw [if_neg hm, Nat.mod_eq_of_lt (show c.toNat < 128 by omega)] at h
            rw [Nat.mod_eq_of_lt (show c.toNat < 128 by omega)] at hm
            simp only [Prod.mk.injEq, and_true] at h
            obtain ⟨h1, h2⟩ := h
            refine ⟨c.toNat, ?_, h1.symm, by omega, fun hi => by omega, ?_⟩
            · rw [putN_small (by omega), h2]; simp
            · rw [putN_small (by omega)]; simp; omega

theorem takeN_back {l : List UInt8} {n : Nat} {m : List UInt8} (h : takeN l = (n, m, 0)) : l = putN n ++ m ∧ n ≤ maxNum := by
  obtain ⟨q, e1, e2, e3, _⟩ := takeGo_back l 0 0 n m (by omega) (by simp) h
  have : n = q := by simpa using e2
  subst this
  exact ⟨e1, e3⟩

/-- Where something is wrong nothing is taken. -/
theorem takeGo_wrong : ∀ (l : List UInt8) (i acc : Nat), (takeGo i acc l).2.2 ≠ 0 → (takeGo i acc l).1 = 0 ∧ (takeGo i acc l).2.1 = []
  | [], i, acc, _ => ⟨rfl, rfl⟩
  | c :: l, i, acc, h => by
    rw [takeGo] at h ⊢
    by_cases h6 : i = 6
    · rw [if_pos h6]; exact ⟨rfl, rfl⟩
    · rw [if_neg h6] at h ⊢
      by_cases hb : 128 ≤ c.toNat
      · rw [if_pos hb] at h ⊢; exact takeGo_wrong l _ _ h
      · rw [if_neg hb] at h ⊢
        by_cases hz : c.toNat = 0 ∧ 0 < i
        · rw [if_pos hz]; exact ⟨rfl, rfl⟩
        · rw [if_neg hz] at h ⊢
          by_cases hm : maxNum < acc + c.toNat % 128 * 128 ^ i
          · rw [if_pos hm]; exact ⟨rfl, rfl⟩
          · rw [if_neg hm] at h; exact absurd rfl h

theorem takeN_wrong {l : List UInt8} (h : (takeN l).2.2 ≠ 0) : (takeN l).1 = 0 ∧ (takeN l).2.1 = [] := takeGo_wrong l 0 0 h

/-- Of fewer bytes than a number has there is none: they end too early. -/
theorem takeGo_short : ∀ (k i acc n j : Nat), i + k = 6 → n < 128 ^ k → (0 < i → 0 < n) → j < (putN n).length → takeGo i acc ((putN n).take j) = (0, [], 3)
  | _, i, acc, n, 0, _, _, _, _ => by rw [List.take_zero, takeGo_nil]
  | 0, i, acc, n, j + 1, hk, hn, hi, _ => by
    have : n = 0 := by simpa using hn
    have := hi (by omega)
    omega
  | k + 1, i, acc, n, j + 1, hk, hn, hi, hj => by
    by_cases hs : n < 128
    · rw [putN_small hs] at hj; simp at hj
    · have h128 : n % 128 + 128 < 256 := by omega
      rw [putN_large hs, List.length_cons] at hj
      rw [putN_large hs, List.take_succ_cons, takeGo, toNat_of h128, if_neg (by omega), if_pos (by omega)]
      exact takeGo_short k (i + 1) _ (n / 128) j (by omega) (by rw [Nat.pow_succ] at hn; exact Nat.div_lt_of_lt_mul (by omega)) (fun _ => by omega) (by omega)

theorem takeN_short {n j : Nat} (h : n ≤ maxNum) (hj : j < (putN n).length) : takeN ((putN n).take j) = (0, [], 3) :=
  takeGo_short 6 0 0 n j rfl (by unfold maxNum at h; omega) (fun h => absurd h (by omega)) hj

theorem putN_inj {a b : Nat} (ha : a ≤ maxNum) (hb : b ≤ maxNum) (h : putN a = putN b) : a = b := by
  have h1 := takeN_put ha []
  have h2 := takeN_put hb []
  rw [h, h2] at h1
  simp at h1
  exact h1.symm

/-- More bytes: larger. -/
theorem putN_mono : ∀ (a b : Nat), a ≤ b → (putN a).length ≤ (putN b).length := by
  intro a
  induction a using Nat.strongRecOn with
  | _ a ih =>
    intro b h
    by_cases hs : a < 128
    · rw [putN_small hs]; exact putN_pos b
    · rw [putN_large hs, putN_large (show ¬ b < 128 by omega), List.length_cons, List.length_cons]
      have := ih (a / 128) (by omega) (b / 128) (by omega)
      omega

/-- No number's bytes are the beginning of another's. -/
theorem putN_no_prefix {a b : Nat} (ha : a ≤ maxNum) (hb : b ≤ maxNum) (h : (putN a).length < (putN b).length) : (putN b).take (putN a).length ≠ putN a := by
  intro e
  have h1 := takeN_short hb h
  have h2 := takeN_put ha []
  rw [List.append_nil] at h2
  rw [e, h2] at h1
  simp at h1
end Go.Proofs.YtflojipkgaocnaaGreatDoor
