/-
  The walks of view.same and view.Follows. Printed by gen_vwfollows.py of this claim's writer.
-/
import Derived.Test.YtapgjjfndbfnpaaDoorCvLane
import Derived.BigQuiet
import Derived.Deep.DeepCutAuto
namespace Go.Proofs.YtapgjjfndbfnpaaDoor.Vw
open Go.RowKit

theorem block_cells {w : World} {g : Nat} {a0 a1 a2 a3 : Value} {t : TypeId} (h : w.heap[g]? = some (.cells #[a0, a1, a2, a3] t)) :
    w.cell? ⟨g, 0, none⟩ = some a0 ∧ w.cell? ⟨g, 1, none⟩ = some a1 ∧ w.cell? ⟨g, 2, none⟩ = some a2 ∧ w.cell? ⟨g, 3, none⟩ = some a3 :=
  ⟨by rw [cell_of_row w g 0 _ _ _ h]; rfl, by rw [cell_of_row w g 1 _ _ _ h]; rfl, by rw [cell_of_row w g 2 _ _ _ h]; rfl, by rw [cell_of_row w g 3 _ _ _ h]; rfl⟩
theorem block_frozen {w : World} {g : Nat} {cs : Array Value} {t : TypeId} (h : w.heap[g]? = some (.cells cs t)) :
    w.frozen? ⟨g, 0, none⟩ = false ∧ w.frozen? ⟨g, 1, none⟩ = false ∧ w.frozen? ⟨g, 2, none⟩ = false ∧ w.frozen? ⟨g, 3, none⟩ = false := by
  refine ⟨?_, ?_, ?_, ?_⟩ <;> simp [World.frozen?, h]
theorem ints_set_hi {B : Nat} {w : World} {v : Value} {l : List Int} (h : IsInts B w v l) (g o : Nat) (hg : B ≤ g) (x : Value) : IsInts B (w.setCell ⟨g, o, none⟩ x) v l := by
  obtain ⟨a, cap, rfl, h1, h2, h3, h4, h5⟩ := h
  refine ⟨a, cap, rfl, h1, h2, h3, h4, fun hp => ?_⟩
  obtain ⟨b, off, rfl, hlt, hc⟩ := h5 hp
  refine ⟨b, off, rfl, hlt, fun i hi => ?_⟩
  rw [World.cell?_setCell_other _ _ _ _ (by simp only [ne_eq, Addr.mk.injEq]; omega)]
  exact hc i hi
theorem view_set4_hi {B : Nat} {w : World} {v : Value} {V : VW} (h : IsView B w v V) (g : Nat) (hg : B ≤ g) (v0 v1 v2 v3 : Value) :
    IsView B ((((w.setCell ⟨g, 0, none⟩ v0).setCell ⟨g, 1, none⟩ v1).setCell ⟨g, 2, none⟩ v2).setCell ⟨g, 3, none⟩ v3) v V := by
  obtain ⟨h0, c, s, b, rfl, h1, h2, h3⟩ := h
  have f := fun {v : Value} {l : List Int} (h : IsInts B w v l) => ints_set_hi (ints_set_hi (ints_set_hi (ints_set_hi h g 0 hg v0) g 1 hg v1) g 2 hg v2) g 3 hg v3
  exact ⟨h0, _, _, _, rfl, f h1, f h2, f h3⟩

end Go.Proofs.YtapgjjfndbfnpaaDoor.Vw
