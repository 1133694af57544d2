/-
  What events and batches can be gone through.
-/
import Derived.Test.YtapgjjfndbfnpaaDoorEvFits
namespace Go.Proofs.YtapgjjfndbfnpaaDoor
open Go.RowKit

/-- What can be gone through. -/
structure LightE (e : EV) : Prop where
  k : e.kind.size ≤ 300
  d : e.data.size ≤ 500
structure LightB (b : BW) : Prop where
  s : b.stream.size ≤ 300
  n : b.events.length ≤ 20
  e : ∀ x ∈ b.events, LightE x
theorem box2 {w W : World} {a0 a1 : Value} {t : TypeId} (hb : Below (w.heap.size + 1) (w.alloc (.cells #[a0, a1] t)) W) : W.cell? ⟨w.heap.size, 0, none⟩ = some a0 ∧ W.cell? ⟨w.heap.size, 1, none⟩ = some a1 :=
  ⟨(hb.cell (p := ⟨w.heap.size, 0, none⟩) (by simp)).trans (by simp), (hb.cell (p := ⟨w.heap.size, 1, none⟩) (by simp)).trans (by simp)⟩
end Go.Proofs.YtapgjjfndbfnpaaDoor
