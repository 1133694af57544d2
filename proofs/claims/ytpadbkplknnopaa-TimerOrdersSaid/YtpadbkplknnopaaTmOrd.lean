/-
  The plain law of bucketlinelaw12.TimerOrders: what is set in another order is the same.
-/
import Derived.Test.YtpadbkplknnopaaTmOps
namespace Go.Proofs.Ytpadbkplknnopaa
set_option linter.unusedSimpArgs false
set_option linter.unusedVariables false
open Go.RowKit

def abcT : ByteArray := ⟨#[97, 98, 99, 100, 101, 102, 103, 104, 105, 106, 107, 108, 109, 110, 111, 112, 113, 114, 115, 116, 117, 118, 119, 120, 121, 122]⟩
def nmT (i : Nat) : ByteArray := abcT.extract i (i + 1)
theorem nm_inj {i j : Nat} (hi : i < 26) (hj : j < 26) (h : nmT i = nmT j) : i = j := by
  have hb : ∀ k : Nat, k < 26 → (nmT k).data.toList = [UInt8.ofNat (97 + k)] := by
    intro k hk
    have h1 : (nmT k).data.toList = (abcT.data.toList.drop k).take 1 := by
      unfold nmT
      simp only [ByteArray.data_extract, Array.toList_extract, List.extract_eq_take_drop]
      rw [show k + 1 - k = 1 by omega]
    have h2 : ∀ q : Fin 26, (abcT.data.toList.drop q.val).take 1 = [UInt8.ofNat (97 + q.val)] := by decide +kernel
    rw [h1]
    exact h2 ⟨k, hk⟩
  have h3 : [UInt8.ofNat (97 + i)] = [UInt8.ofNat (97 + j)] := by rw [← hb i hi, ← hb j hj, h]
  have h4 : UInt8.ofNat (97 + i) = UInt8.ofNat (97 + j) := by injection h3
  have h5 := congrArg UInt8.toNat h4
  simp only [UInt8.toNat_ofNat'] at h5
  omega
def tmOf (l : List Int) (i : Nat) : TM := ⟨nmT i, l[i]?.getD 0⟩
def InT (l : List Int) (S : Nat → Prop) (A : List TM) : Prop := ∀ y, y ∈ A ↔ ∃ i, S i ∧ y = tmOf l i
theorem in_set {l : List Int} {S : Nat → Prop} {A : List TM} {j : Nat} (hj : j < 26) (hS : ∀ i, S i → i < 26) (h : InT l S A) : InT l (fun i => S i ∨ i = j) (setR (nmT j) (l[j]?.getD 0) A) := by
  intro y
  rw [set_mem]
  constructor
  · rintro (rfl | ⟨h1, _⟩)
    · exact ⟨j, .inr rfl, rfl⟩
    · obtain ⟨i, h2, rfl⟩ := (h y).1 h1
      exact ⟨i, .inl h2, rfl⟩
  · rintro ⟨i, h1 | rfl, rfl⟩
    · by_cases hij : i = j
      · exact .inl (by rw [hij]; rfl)
      · exact .inr ⟨(h _).2 ⟨i, h1, rfl⟩, fun e => hij (nm_inj (hS i h1) hj e)⟩
    · exact .inl rfl
theorem in_len {l : List Int} {S : Nat → Prop} {A : List TM} {j : Nat} (hj : j < 26) (hS : ∀ i, S i → i < 26) (hn : ¬ S j) (h : InT l S A) (t : Int) : (setR (nmT j) t A).length = A.length + 1 := by
  rw [setR, ins_len]
  have : clearR (nmT j) A = A := by
    refine List.filter_eq_self.2 (fun y hy => ?_)
    obtain ⟨i, h2, rfl⟩ := (h y).1 hy
    refine decide_eq_true (fun e => ?_)
    have e2 : i = j := nm_inj (hS i h2) hj e
    exact hn (e2 ▸ h2)
  rw [this]
theorem in_eq {l : List Int} {S S' : Nat → Prop} {A B : List TM} (hA : RightT A) (hB : RightT B) (h : InT l S A) (h' : InT l S' B) (hs : ∀ i, S i ↔ S' i) : A = B := by
  refine sorted_eq hA.sorted hB.sorted (fun y => ?_)
  rw [h y, h' y]
  exact ⟨fun ⟨i, h1, h2⟩ => ⟨i, (hs i).1 h1, h2⟩, fun ⟨i, h1, h2⟩ => ⟨i, (hs i).2 h1, h2⟩⟩
theorem in_nil (l : List Int) (S : Nat → Prop) (hS : ∀ i, ¬ S i) : InT l S [] := fun y => ⟨fun h => absurd h (by simp), fun ⟨i, h1, _⟩ => absurd h1 (hS i)⟩
theorem InT.congr {l : List Int} {S S' : Nat → Prop} {A : List TM} (h : InT l S A) (hs : ∀ i, S i ↔ S' i) : InT l S' A := fun y => by
  rw [h y]
  exact ⟨fun ⟨i, h1, h2⟩ => ⟨i, (hs i).1 h1, h2⟩, fun ⟨i, h1, h2⟩ => ⟨i, (hs i).2 h1, h2⟩⟩
/-- All things are met. -/
theorem turn_all {n K : Nat} (hK : K < n) (j : Nat) : j < n ↔ ∃ i, i < n ∧ j = (n - 1 - i + K) % n := by
  constructor
  · intro hj
    by_cases h : j < K
    · refine ⟨K - 1 - j, by omega, ?_⟩
      rw [show n - 1 - (K - 1 - j) + K = j + n by omega, Nat.add_mod_right, Nat.mod_eq_of_lt hj]
    · refine ⟨n - 1 + K - j, by omega, ?_⟩
      rw [show n - 1 - (n - 1 + K - j) + K = j by omega, Nat.mod_eq_of_lt hj]
  · rintro ⟨i, _, rfl⟩
    exact Nat.mod_lt _ (by omega)
theorem not_full {n : ByteArray} {l : List TM} (h : l.length < 64) : fullT n l = false := by
  simp only [fullT, Bool.and_eq_false_iff, decide_eq_false_iff_not]
  exact .inl (by omega)

/-! ### two timers in two cells -/
structure TwoT (w1 : World) (p0 : Nat) (va : Value) (A : List TM) (vb : Value) (B : List TM) (z : World) : Prop where
  ga : z.heap[p0]? = some (.cells #[va] 26)
  gb : z.heap[p0 + 1]? = some (.cells #[vb] 26)
  oa : OwnT z (p0 + 2) va A
  ob : OwnT z (p0 + 2) vb B
  bl : Below p0 w1 z
theorem TwoT.size {w1 z : World} {p0 : Nat} {va vb : Value} {A B : List TM} (h : TwoT w1 p0 va A vb B z) : p0 + 2 ≤ z.heap.size := (Array.getElem?_eq_some_iff.1 h.gb).1
theorem TwoT.keep {w1 z z' : World} {p0 : Nat} {va vb : Value} {A B : List TM} (h : TwoT w1 p0 va A vb B z) (hb : Below z.heap.size z z') : TwoT w1 p0 va A vb B z' := by
  have hz := h.size
  exact ⟨(hb.block p0 (by omega)).trans h.ga, (hb.block (p0 + 1) (by omega)).trans h.gb, OwnT.keep h.oa hb, OwnT.keep h.ob hb, h.bl.trans (hb.mono (by omega))⟩
theorem set_block_ne {z : World} {p q : Nat} {v : Value} (h : p ≠ q) : (z.setCell ⟨q, 0, none⟩ v).heap[p]? = z.heap[p]? := by
  simp only [World.setCell]
  rw [Array.getElem?_modify, if_neg (fun e => h e.symm)]
theorem TwoT.setA {w1 z : World} {p0 : Nat} {va vb va2 : Value} {A B A2 : List TM} (h : TwoT w1 p0 va A vb B z) (ho : OwnT z (p0 + 2) va2 A2) : TwoT w1 p0 va2 A2 vb B (z.setCell ⟨p0, 0, none⟩ va2) := by
  refine ⟨blk_set h.ga 0 _, by rw [set_block_ne (by omega)]; exact h.gb, OwnT.set ho (by omega), OwnT.set h.ob (by omega), ⟨h.bl.os, h.bl.tape, h.bl.output, by rw [World.size_setCell]; exact h.bl.size, fun q hq => ?_⟩⟩
  rw [set_block_ne (by omega)]
  exact h.bl.block q hq
theorem TwoT.setB {w1 z : World} {p0 : Nat} {va vb vb2 : Value} {A B B2 : List TM} (h : TwoT w1 p0 va A vb B z) (ho : OwnT z (p0 + 2) vb2 B2) : TwoT w1 p0 va A vb2 B2 (z.setCell ⟨p0 + 1, 0, none⟩ vb2) := by
  refine ⟨by rw [set_block_ne (by omega)]; exact h.ga, blk_set h.gb 0 _, OwnT.set h.oa (by omega), OwnT.set ho (by omega), ⟨h.bl.os, h.bl.tape, h.bl.output, by rw [World.size_setCell]; exact h.bl.size, fun q hq => ?_⟩⟩
  rw [set_block_ne (by omega)]
  exact h.bl.block q hq
end Go.Proofs.Ytpadbkplknnopaa
