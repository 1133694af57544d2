/-
  Frames, plainly: what Put, Take, Scan and Row compute, and how they undo one another.
-/
import Derived.Test.YtebliglfofjafaaCrcPlain2
import Derived.Test.YtebliglfofjafaaNumPlain
namespace Go.Proofs.Ytebliglfofjafaa

/-- Four bytes, the highest first. -/
def fix4 (n : Nat) : List UInt8 := [UInt8.ofNat (n / 16777216 % 256), UInt8.ofNat (n / 65536 % 256), UInt8.ofNat (n / 256 % 256), UInt8.ofNat (n % 256)]
theorem fix4_len (n : Nat) : (fix4 n).length = 4 := rfl

def valB (l : List UInt8) : Nat := l.foldl (fun n c => n * 256 + c.toNat) 0
theorem valB_snoc (l : List UInt8) (c : UInt8) : valB (l ++ [c]) = valB l * 256 + c.toNat := by simp [valB]
theorem valB_lt : ∀ (k : Nat) (l : List UInt8), l.length ≤ k → valB l < 256 ^ k := by
  intro k
  induction k with
  | zero =>
    intro l h
    have h0 : l = [] := List.eq_nil_of_length_eq_zero (by omega)
    subst h0; simp [valB]
  | succ k ih =>
    intro l h
    rcases List.eq_nil_or_concat l with rfl | ⟨m, c, rfl⟩
    · have : valB [] = 0 := rfl
      rw [this]; exact Nat.pow_pos (by omega)
    · rw [List.concat_eq_append] at h ⊢
      rw [valB_snoc, Nat.pow_succ]
      have h1 := ih m (by simp at h; omega)
      have h2 : c.toNat < 256 := c.toNat_lt
      omega
theorem valB_lt4 (l : List UInt8) : valB (l.take 4) < 4294967296 := valB_lt 4 (l.take 4) (by simp; omega)

theorem valB_fix4 (n : Nat) (h : n < 4294967296) : valB (fix4 n) = n := by
  unfold valB fix4
  simp only [List.foldl_cons, List.foldl_nil]
  rw [toNat_of (show n / 16777216 % 256 < 256 by omega), toNat_of (show n / 65536 % 256 < 256 by omega), toNat_of (show n / 256 % 256 < 256 by omega), toNat_of (show n % 256 < 256 by omega)]
  omega

theorem fix4_valB (l : List UInt8) (h : l.length = 4) : fix4 (valB l) = l := by
  match l, h with
  | [a, b, c, d], _ =>
    have ha : a.toNat < 256 := a.toNat_lt
    have hb : b.toNat < 256 := b.toNat_lt
    have hc : c.toNat < 256 := c.toNat_lt
    have hd : d.toNat < 256 := d.toNat_lt
    have e : valB [a, b, c, d] = ((a.toNat * 256 + b.toNat) * 256 + c.toNat) * 256 + d.toNat := by simp [valB]
    unfold fix4
    rw [e, show (((a.toNat * 256 + b.toNat) * 256 + c.toNat) * 256 + d.toNat) / 16777216 % 256 = a.toNat by omega,
      show (((a.toNat * 256 + b.toNat) * 256 + c.toNat) * 256 + d.toNat) / 65536 % 256 = b.toNat by omega,
      show (((a.toNat * 256 + b.toNat) * 256 + c.toNat) * 256 + d.toNat) / 256 % 256 = c.toNat by omega,
      show (((a.toNat * 256 + b.toNat) * 256 + c.toNat) * 256 + d.toNat) % 256 = d.toNat by omega]
    simp

def takeF (l : List UInt8) : Nat × List UInt8 × Nat := if l.length < 4 then (0, [], 3) else (valB (l.take 4), l.drop 4, 0)

/-- The bytes of a frame. -/
def frame (p : List UInt8) : List UInt8 := fix4 p.length ++ fix4 (crcU 0 (fix4 p.length ++ p)) ++ p
theorem frame_len (p : List UInt8) : (frame p).length = 8 + p.length := by simp [frame, fix4_len]; omega

def putFr (p : List UInt8) : List UInt8 × Nat := if p.length = 0 then ([], 2) else if 8000 < p.length then ([], 4) else (frame p, 0)

/-- May a payload be framed? -/
def fits (p : List UInt8) : Prop := 0 < p.length ∧ p.length ≤ 8000
theorem putFr_fits {p : List UInt8} (h : fits p) : putFr p = (frame p, 0) := by
  unfold putFr; rw [if_neg (by have := h.1; omega), if_neg (by have := h.2; omega)]
theorem putFr_bad {p : List UInt8} (h : ¬ fits p) : (putFr p).1 = [] ∧ (putFr p).2 ≠ 0 := by
  unfold putFr
  by_cases h0 : p.length = 0
  · rw [if_pos h0]; exact ⟨rfl, by decide⟩
  · rw [if_neg h0]
    by_cases h8 : 8000 < p.length
    · rw [if_pos h8]; exact ⟨rfl, by decide⟩
    · exact absurd ⟨by omega, by omega⟩ h
theorem putFr_ok {p : List UInt8} (h : (putFr p).2 = 0) : fits p := by
  rcases Classical.em (fits p) with h1 | h1
  · exact h1
  · exact absurd h (putFr_bad h1).2

def takeFr (s : List UInt8) : List UInt8 × List UInt8 × Nat :=
  if s.length < 8 then ([], [], 3)
  else if valB (s.take 4) = 0 then ([], [], 2)
  else if 8000 < valB (s.take 4) then ([], [], 4)
  else if (s.drop 8).length < valB (s.take 4) then ([], [], 3)
  else if crcU 0 (s.take 4 ++ (s.drop 8).take (valB (s.take 4))) ≠ valB ((s.drop 4).take 4) then ([], [], 5)
  else ((s.drop 8).take (valB (s.take 4)), (s.drop 8).drop (valB (s.take 4)), 0)

theorem takeFr_wrong {s : List UInt8} (h : (takeFr s).2.2 ≠ 0) : (takeFr s).1 = [] ∧ (takeFr s).2.1 = [] := by
  unfold takeFr at h ⊢
  by_cases h1 : s.length < 8
  · rw [if_pos h1]; exact ⟨rfl, rfl⟩
  rw [if_neg h1] at h ⊢
  by_cases h2 : valB (s.take 4) = 0
  · rw [if_pos h2]; exact ⟨rfl, rfl⟩
  rw [if_neg h2] at h ⊢
  by_cases h3 : 8000 < valB (s.take 4)
  · rw [if_pos h3]; exact ⟨rfl, rfl⟩
  rw [if_neg h3] at h ⊢
  by_cases h4 : (s.drop 8).length < valB (s.take 4)
  · rw [if_pos h4]; exact ⟨rfl, rfl⟩
  rw [if_neg h4] at h ⊢
  by_cases h5 : crcU 0 (s.take 4 ++ (s.drop 8).take (valB (s.take 4))) ≠ valB ((s.drop 4).take 4)
  · rw [if_pos h5]; exact ⟨rfl, rfl⟩
  · rw [if_neg h5] at h; exact absurd rfl h

theorem takeFr_frame {p : List UInt8} (h : fits p) (m : List UInt8) : takeFr (frame p ++ m) = (p, m, 0) := by
  obtain ⟨h0, h8⟩ := h
  have hl := frame_len p
  have hc : crcU 0 (fix4 p.length ++ p) < 4294967296 := crcU_lt 0 _
  have e1 : (frame p ++ m).take 4 = fix4 p.length := by
    unfold frame
    rw [List.append_assoc, List.append_assoc, List.take_append_of_le_length (by rw [fix4_len]; omega), List.take_of_length_le (by rw [fix4_len]; omega)]
  have e2 : (frame p ++ m).drop 4 = fix4 (crcU 0 (fix4 p.length ++ p)) ++ (p ++ m) := by
    unfold frame
    rw [List.append_assoc, List.append_assoc, List.drop_append_of_le_length (by rw [fix4_len]; omega), List.drop_of_length_le (by rw [fix4_len]; omega), List.nil_append]
  have e3 : (frame p ++ m).drop 8 = p ++ m := by
    rw [show 8 = 4 + 4 from rfl, ← List.drop_drop, e2, List.drop_append_of_le_length (by rw [fix4_len]; omega), List.drop_of_length_le (by rw [fix4_len]; omega), List.nil_append]
  have e4 : ((frame p ++ m).drop 4).take 4 = fix4 (crcU 0 (fix4 p.length ++ p)) := by
    rw [e2, List.take_append_of_le_length (by rw [fix4_len]; omega), List.take_of_length_le (by rw [fix4_len]; omega)]
  unfold takeFr
  rw [e1, e3, e4, valB_fix4 _ (by omega), valB_fix4 _ hc, if_neg (by rw [List.length_append, hl]; omega), if_neg (by omega), if_neg (by omega), if_neg (by rw [List.length_append]; omega),
    List.take_append_of_le_length (Nat.le_refl _), List.take_of_length_le (Nat.le_refl _), if_neg (by simp), List.drop_append_of_le_length (Nat.le_refl _), List.drop_of_length_le (Nat.le_refl _), List.nil_append]

theorem takeFr_back {s p m : List UInt8} (h : takeFr s = (p, m, 0)) : s = frame p ++ m ∧ fits p := by
  unfold takeFr at h
  by_cases h1 : s.length < 8
  · rw [if_pos h1] at h; simp at h
  rw [if_neg h1] at h
  by_cases h2 : valB (s.take 4) = 0
  · rw [if_pos h2] at h; simp at h
  rw [if_neg h2] at h
  by_cases h3 : 8000 < valB (s.take 4)
  · rw [if_pos h3] at h; simp at h
  rw [if_neg h3] at h
  by_cases h4 : (s.drop 8).length < valB (s.take 4)
  · rw [if_pos h4] at h; simp at h
  rw [if_neg h4] at h
  by_cases h5 : crcU 0 (s.take 4 ++ (s.drop 8).take (valB (s.take 4))) ≠ valB ((s.drop 4).take 4)
  · rw [if_pos h5] at h; simp at h
  rw [if_neg h5] at h
  have h5' : crcU 0 (s.take 4 ++ (s.drop 8).take (valB (s.take 4))) = valB ((s.drop 4).take 4) := by simpa using h5
  obtain ⟨rfl, rfl⟩ : (s.drop 8).take (valB (s.take 4)) = p ∧ (s.drop 8).drop (valB (s.take 4)) = m := by simpa using h
  have hn : ((s.drop 8).take (valB (s.take 4))).length = valB (s.take 4) := by rw [List.length_take]; omega
  refine ⟨?_, by rw [fits, hn]; omega⟩
  have k1 : fix4 (valB (s.take 4)) = s.take 4 := fix4_valB _ (by rw [List.length_take]; omega)
  have k2 : fix4 (valB ((s.drop 4).take 4)) = (s.drop 4).take 4 := fix4_valB _ (by rw [List.length_take, List.length_drop]; omega)
  unfold frame
  rw [hn, k1, h5', k2, List.append_assoc, List.append_assoc, List.take_append_drop, show s.drop 8 = (s.drop 4).drop 4 by rw [List.drop_drop], List.take_append_drop, List.take_append_drop]

theorem takeFr_rest {s p m : List UInt8} (h : takeFr s = (p, m, 0)) : s.length = 8 + p.length + m.length ∧ 0 < p.length := by
  obtain ⟨h1, h2⟩ := takeFr_back h
  have := congrArg List.length h1
  rw [List.length_append, frame_len] at this
  exact ⟨this, h2.1⟩

/-- Of fewer bytes than a frame has there is none: they end too early. -/
theorem takeFr_short {p : List UInt8} (h : fits p) {j : Nat} (hj : j < (frame p).length) : takeFr ((frame p).take j) = ([], [], 3) := by
  obtain ⟨h0, h8⟩ := h
  have hl := frame_len p
  have hlt : ((frame p).take j).length = j := by rw [List.length_take]; omega
  unfold takeFr
  by_cases h1 : j < 8
  · rw [if_pos (by rw [hlt]; exact h1)]
  · have e1 : ((frame p).take j).take 4 = fix4 p.length := by
      rw [List.take_take, show min 4 j = 4 by omega]
      unfold frame
      rw [List.append_assoc, List.take_append_of_le_length (by rw [fix4_len]; omega), List.take_of_length_le (by rw [fix4_len]; omega)]
    rw [if_neg (by rw [hlt]; omega), e1, valB_fix4 _ (by omega), if_neg (by omega), if_neg (by omega), if_pos (by rw [List.length_drop, hlt]; omega)]
end Go.Proofs.Ytebliglfofjafaa
