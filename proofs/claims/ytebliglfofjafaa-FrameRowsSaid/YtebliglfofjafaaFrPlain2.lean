/-
  Rows of frames, plainly.
-/
import Derived.Test.YtebliglfofjafaaFrPlain
namespace Go.Proofs.Ytebliglfofjafaa

def rowFr : List (List UInt8) → List UInt8 × Nat
  | [] => ([], 0)
  | p :: l => if (putFr p).2 ≠ 0 then ([], (putFr p).2) else if (rowFr l).2 ≠ 0 then ([], (rowFr l).2) else ((putFr p).1 ++ (rowFr l).1, 0)

def rowBytes (l : List (List UInt8)) : List UInt8 := l.flatMap frame
theorem rowBytes_nil : rowBytes [] = [] := rfl
theorem rowBytes_cons (p : List UInt8) (l : List (List UInt8)) : rowBytes (p :: l) = frame p ++ rowBytes l := by simp [rowBytes]
theorem rowBytes_append (l m : List (List UInt8)) : rowBytes (l ++ m) = rowBytes l ++ rowBytes m := by simp [rowBytes]
theorem rowBytes_snoc (l : List (List UInt8)) (p : List UInt8) : rowBytes (l ++ [p]) = rowBytes l ++ frame p := by simp [rowBytes]

/-- How many bytes the frames of payloads have. -/
def rowLen : List (List UInt8) → Nat
  | [] => 0
  | p :: l => 8 + p.length + rowLen l
theorem rowBytes_len : ∀ l : List (List UInt8), (rowBytes l).length = rowLen l
  | [] => rfl
  | p :: l => by rw [rowBytes_cons, List.length_append, frame_len, rowBytes_len l, rowLen]
theorem rowLen_append : ∀ l m : List (List UInt8), rowLen (l ++ m) = rowLen l + rowLen m
  | [], m => by simp [rowLen]
  | p :: l, m => by rw [List.cons_append, rowLen, rowLen, rowLen_append l m]; omega
theorem rowLen_snoc (l : List (List UInt8)) (p : List UInt8) : rowLen (l ++ [p]) = rowLen l + (8 + p.length) := by rw [rowLen_append]; simp [rowLen]

theorem rowFr_all : ∀ (l : List (List UInt8)), (∀ p ∈ l, fits p) → rowFr l = (rowBytes l, 0)
  | [], _ => rfl
  | p :: l, h => by
    have ih := rowFr_all l (fun q hq => h q (List.mem_cons_of_mem _ hq))
    rw [rowFr, putFr_fits (h p List.mem_cons_self), ih]
    simp [rowBytes_cons]

theorem rowFr_bad : ∀ (l : List (List UInt8)) (p : List UInt8) (m : List (List UInt8)), (∀ q ∈ l, fits q) → ¬ fits p → rowFr (l ++ p :: m) = ([], (putFr p).2)
  | [], p, m, _, hp => by rw [List.nil_append, rowFr, if_pos (putFr_bad hp).2]
  | q :: l, p, m, h, hp => by
    have ih := rowFr_bad l p m (fun x hx => h x (List.mem_cons_of_mem _ hx)) hp
    rw [List.cons_append, rowFr, putFr_fits (h q List.mem_cons_self), ih]
    simp [(putFr_bad hp).2]

theorem rowFr_ok {l : List (List UInt8)} (h : (rowFr l).2 = 0) : ∀ p ∈ l, fits p := by
  induction l with
  | nil => intro p hp; simp at hp
  | cons q l ih =>
    rw [rowFr] at h
    by_cases h1 : (putFr q).2 ≠ 0
    · rw [if_pos h1] at h; exact absurd h h1
    · rw [if_neg h1] at h
      by_cases h2 : (rowFr l).2 ≠ 0
      · rw [if_pos h2] at h; exact absurd h h2
      · intro p hp
        rcases List.mem_cons.1 hp with rfl | hp
        · exact putFr_ok (by simpa using h1)
        · exact ih (by simpa using h2) p hp

theorem rowFr_wrong {l : List (List UInt8)} (h : (rowFr l).2 ≠ 0) : (rowFr l).1 = [] := by
  cases l with
  | nil => rfl
  | cons q l =>
    rw [rowFr] at h ⊢
    by_cases h1 : (putFr q).2 ≠ 0
    · rw [if_pos h1]
    · rw [if_neg h1] at h ⊢
      by_cases h2 : (rowFr l).2 ≠ 0
      · rw [if_pos h2]
      · rw [if_neg h2] at h; exact absurd rfl h

/-! ### Scan -/
/-- The payloads of the frames that bytes begin with, and what is behind them. -/
def scanGo : Nat → List UInt8 → List (List UInt8) × List UInt8
  | 0, s => ([], s)
  | k + 1, s => if (takeFr s).2.2 = 0 then ((takeFr s).1 :: (scanGo k (takeFr s).2.1).1, (scanGo k (takeFr s).2.1).2) else ([], s)

def scanFr (s : List UInt8) : List (List UInt8) × List UInt8 := scanGo s.length s

theorem scanGo_fuel : ∀ (k j : Nat) (s : List UInt8), s.length ≤ k → s.length ≤ j → scanGo k s = scanGo j s
  | 0, 0, _, _, _ => rfl
  | 0, j + 1, s, h, _ => by
    have h0 : s = [] := List.eq_nil_of_length_eq_zero (by omega)
    subst h0
    rw [scanGo, scanGo, if_neg (by decide)]
  | k + 1, 0, s, _, h => by
    have h0 : s = [] := List.eq_nil_of_length_eq_zero (by omega)
    subst h0
    rw [scanGo, scanGo, if_neg (by decide)]
  | k + 1, j + 1, s, hk, hj => by
    rw [scanGo, scanGo]
    by_cases h : (takeFr s).2.2 = 0
    · have e : takeFr s = ((takeFr s).1, (takeFr s).2.1, 0) := by rw [← h]
      have := (takeFr_rest e).1
      rw [if_pos h, if_pos h, scanGo_fuel k j _ (by omega) (by omega)]
    · rw [if_neg h, if_neg h]

theorem scanFr_stop {s : List UInt8} (h : (takeFr s).2.2 ≠ 0) : scanFr s = ([], s) := by
  unfold scanFr
  cases hs : s.length with
  | zero => rw [scanGo]
  | succ k => rw [scanGo, if_neg h]

theorem scanFr_step {s p m : List UInt8} (h : takeFr s = (p, m, 0)) : scanFr s = (p :: (scanFr m).1, (scanFr m).2) := by
  have hl := (takeFr_rest h).1
  unfold scanFr
  obtain ⟨k, hk⟩ : ∃ k, s.length = k + 1 := ⟨s.length - 1, by omega⟩
  rw [hk, scanGo, h]
  simp only [if_true]
  rw [scanGo_fuel k m.length m (by omega) (Nat.le_refl _)]

theorem scanFr_row : ∀ (l : List (List UInt8)) (m : List UInt8), (∀ p ∈ l, fits p) → scanFr (rowBytes l ++ m) = (l ++ (scanFr m).1, (scanFr m).2)
  | [], m, _ => by simp [rowBytes]
  | p :: l, m, h => by
    have ht : takeFr (rowBytes (p :: l) ++ m) = (p, rowBytes l ++ m, 0) := by rw [rowBytes_cons, List.append_assoc]; exact takeFr_frame (h p List.mem_cons_self) _
    rw [scanFr_step ht, scanFr_row l m (fun q hq => h q (List.mem_cons_of_mem _ hq))]
    rfl

/-- What is scanned stood there, frame by frame. -/
theorem scanFr_back (s : List UInt8) : s = rowBytes (scanFr s).1 ++ (scanFr s).2 ∧ (∀ p ∈ (scanFr s).1, fits p) := by
  have key : ∀ (n : Nat) (s : List UInt8), s.length ≤ n → s = rowBytes (scanFr s).1 ++ (scanFr s).2 ∧ (∀ p ∈ (scanFr s).1, fits p) := by
    intro n
    induction n with
    | zero =>
      intro s h
      have h0 : s = [] := List.eq_nil_of_length_eq_zero (by omega)
      subst h0
      exact ⟨rfl, fun p hp => by simp [scanFr, scanGo] at hp⟩
    | succ n ih =>
      intro s hs
      by_cases h : (takeFr s).2.2 = 0
      · have e : takeFr s = ((takeFr s).1, (takeFr s).2.1, 0) := by rw [← h]
        obtain ⟨h1, h2⟩ := takeFr_back e
        have hl := (takeFr_rest e).1
        obtain ⟨i1, i2⟩ := ih (takeFr s).2.1 (by omega)
        rw [scanFr_step e]
        constructor
        · rw [rowBytes_cons, List.append_assoc, ← i1]
          exact h1
        · intro p hp
          rcases List.mem_cons.1 hp with rfl | hp
          · exact h2
          · exact i2 p hp
      · rw [scanFr_stop h]
        exact ⟨rfl, fun p hp => by simp at hp⟩
  exact key s.length s (Nat.le_refl _)

theorem scanFr_len (s : List UInt8) : s.length = rowLen (scanFr s).1 + (scanFr s).2.length := by
  have := congrArg List.length (scanFr_back s).1
  rw [List.length_append, rowBytes_len] at this
  exact this
end Go.Proofs.Ytebliglfofjafaa
