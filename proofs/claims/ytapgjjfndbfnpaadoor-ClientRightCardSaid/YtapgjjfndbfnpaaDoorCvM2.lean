/-
  The walks of view.Message and view.Of. Printed by gen_vwmsg.py of this claim's writer.
-/
import Derived.Test.YtapgjjfndbfnpaaDoorCvM1
namespace Go.Proofs.YtapgjjfndbfnpaaDoor.Vw
open Go.RowKit

theorem minfo : (Tryd.prog.info? 27).map (·.size) = some 4 := by kernel_rfl

/-- A row of the call's own whose cells may be written. -/
def Writable (w : World) (lo hi : Nat) (v : Value) (n : Nat) : Prop :=
  ∃ a cap, v = .slice a n cap ∧ n ≤ cap ∧ (0 < n → ∃ g, a = some ⟨g, 0, none⟩ ∧ lo ≤ g ∧ g < hi ∧ ∀ j, j < n → (w.cell? ⟨g, j, none⟩).isSome = true ∧ w.frozen? ⟨g, j, none⟩ = false)

theorem writable_of {w : World} {base : Nat} {e : TypeId} {v : Value} {n : Nat} {l : List Int} (h : w.ownsRow base e 1 v n (icells l)) : Writable w base w.heap.size v n := by
  rcases h.2 with ⟨rfl, rfl⟩ | ⟨g, cap, cur, rfl, hb, hg, h1, _, h3, h4⟩
  · exact ⟨_, _, rfl, Nat.le_refl _, fun h => absurd h (by omega)⟩
  · refine ⟨_, _, rfl, h1, fun hp => ⟨g, rfl, hb, (Array.getElem?_eq_some_iff.1 hg).1, fun j hj => ⟨?_, by simp [World.frozen?, hg]⟩⟩⟩
    rw [cell_of_row w g j cur _ _ hg]
    have : j < cur.size := by omega
    simp [this]

theorem writable_set {w : World} {lo hi : Nat} {v : Value} {n : Nat} (h : Writable w lo hi v n) (p : Addr) (x : Value) : Writable (w.setCell p x) lo hi v n := by
  obtain ⟨a, cap, rfl, h1, h2⟩ := h
  refine ⟨a, cap, rfl, h1, fun hp => ?_⟩
  obtain ⟨g, rfl, h3, h4, h5⟩ := h2 hp
  exact ⟨g, rfl, h3, h4, fun j hj => ⟨some_set (h5 j hj).1, by rw [World.frozen?_setCell]; exact (h5 j hj).2⟩⟩
theorem writable_keep {w w' : World} {lo hi : Nat} {v : Value} {n : Nat} (h : Writable w lo hi v n) (hb : Below hi w w') : Writable w' lo hi v n := by
  obtain ⟨a, cap, rfl, h1, h2⟩ := h
  refine ⟨a, cap, rfl, h1, fun hp => ?_⟩
  obtain ⟨g, rfl, h3, h4, h5⟩ := h2 hp
  refine ⟨g, rfl, h3, h4, fun j hj => ⟨?_, ?_⟩⟩
  · rw [hb.cell (p := ⟨g, j, none⟩) h4]; exact (h5 j hj).1
  · have := (h5 j hj).2
    unfold World.frozen? at this ⊢
    rw [hb.block g h4]
    exact this

end Go.Proofs.YtapgjjfndbfnpaaDoor.Vw
