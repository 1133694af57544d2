/-
  The walk of bucketlinelaw18.shown: the chapter's examples.
-/
import Derived.Test.YtapgjjfndbfnpaaDoorCvM3
namespace Go.Proofs.YtapgjjfndbfnpaaDoor.Vw
open Go.RowKit

/-- A literal of ints. -/
theorem lit_ints (w : World) (l : List Int) (t : TypeId) (hl : ∀ n ∈ l, I64 n) (hm : l.length ≤ maxLen) : IsInts (w.heap.size + 1) (w.alloc (.cells (icells l).toArray t)) (.slice (some ⟨w.heap.size, 0, none⟩) l.length l.length) l :=
  ⟨_, _, rfl, Nat.le_refl _, hm, fun h => (by cases h), hl, fun _ => ⟨w.heap.size, 0, rfl, by omega, fun i hi => by simp [icells, hi]⟩⟩

theorem box4 {w W : World} {a0 a1 a2 a3 : Value} {t : TypeId} (hb : Below (w.heap.size + 1) (w.alloc (.cells #[a0, a1, a2, a3] t)) W) :
    W.cell? ⟨w.heap.size, 0, none⟩ = some a0 ∧ W.cell? ⟨w.heap.size, 1, none⟩ = some a1 ∧ W.cell? ⟨w.heap.size, 2, none⟩ = some a2 ∧ W.cell? ⟨w.heap.size, 3, none⟩ = some a3 := box_cells1 hb

theorem lit3 (w : World) (E : Int) (l1 l2 l3 : List Int) (t : TypeId) (hE : I64 E) (h1 : ∀ n ∈ l1, I64 n) (h2 : ∀ n ∈ l2, I64 n) (h3 : ∀ n ∈ l3, I64 n) (m1 : l1.length ≤ maxLen) (m2 : l2.length ≤ maxLen) (m3 : l3.length ≤ maxLen) :
    IsView (w.heap.size + 3) (((w.alloc (.cells (icells l1).toArray t)).alloc (.cells (icells l2).toArray t)).alloc (.cells (icells l3).toArray t))
      (.agg #[.int .i64 E, .slice (some ⟨w.heap.size, 0, none⟩) l1.length l1.length, .slice (some ⟨w.heap.size + 1, 0, none⟩) l2.length l2.length, .slice (some ⟨w.heap.size + 1 + 1, 0, none⟩) l3.length l3.length]) ⟨E, l1, l2, l3⟩ := by
  refine ⟨hE, _, _, _, rfl, ?_, ?_, ?_⟩
  · have k := lit_ints w l1 t h1 m1
    refine IsInts.up (B := w.heap.size + 1) (k.keep (B' := w.heap.size + 1) (((Below.refl _ _).alloc (by simp) _).alloc (by simp) _) (Nat.le_refl _)) (by omega)
  · have k := lit_ints (w.alloc (.cells (icells l1).toArray t)) l2 t h2 m2
    rw [World.size_alloc] at k
    refine IsInts.up (B := w.heap.size + 1 + 1) (k.keep (B' := w.heap.size + 1 + 1) ((Below.refl _ _).alloc (by simp) _) (Nat.le_refl _)) (by omega)
  · have k := lit_ints ((w.alloc (.cells (icells l1).toArray t)).alloc (.cells (icells l2).toArray t)) l3 t h3 m3
    rw [World.size_alloc, World.size_alloc] at k
    exact k.up (by omega)

theorem below_three {w : World} (o o' o'' : Obj) : Below w.heap.size w (((w.alloc o).alloc o').alloc o'') := (((Below.refl _ _).alloc (Nat.le_refl _) _).alloc (by simp) _).alloc (by simp; omega) _

theorem IsView.form {B : Nat} {w : World} {v : Value} {V : VW} (h : IsView B w v V) : ∃ a1 k1 a2 k2 a3 k3, v = .agg #[.int .i64 V.epoch, .slice a1 V.chain.length k1, .slice a2 V.since.length k2, .slice a3 V.boot.length k3] := by
  obtain ⟨_, c, s, b, rfl, h1, h2, h3⟩ := h
  obtain ⟨a1, k1, rfl⟩ := h1.form
  obtain ⟨a2, k2, rfl⟩ := h2.form
  obtain ⟨a3, k3, rfl⟩ := h3.form
  exact ⟨_, _, _, _, _, _, rfl⟩

end Go.Proofs.YtapgjjfndbfnpaaDoor.Vw
