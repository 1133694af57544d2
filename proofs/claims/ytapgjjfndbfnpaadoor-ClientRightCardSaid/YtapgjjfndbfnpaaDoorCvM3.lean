/-
  The walks of bucketlinelaw18.as, bucketlineref18.Same and bucketlinelaw18.same. Printed by gen_vwsame.py of this claim's writer.
-/
import Derived.Test.YtapgjjfndbfnpaaDoorCvM2
import Derived.BigQuiet
namespace Go.Proofs.YtapgjjfndbfnpaaDoor.Vw
open Go.RowKit

/-- What comes back, where the one result is a cell of four that has just been stored. -/
theorem ret_row4 {P : Program} {fn : Func} {p : Tmp} {ty t : TypeId} (h : fn.results = #[.cell p ty]) (tmps : Array Value) (w : World) (g : Nat) (z0 z1 z2 z3 v0 v1 v2 v3 : Value) (fr : Nat × Nat) (d : TypeDesc)
    (hp : tmps.getD p undef = .pointer (some ⟨g, 0, none⟩)) (hg : w.heap[g]? = some (.cells #[z0, z1, z2, z3] t fr))
    (hu : P.underlying ty = some d) (hd : (match d with | .struct _ | .array _ _ => true | _ => false) = true) (hi : (P.info? ty).map (·.size) = some 4) :
    (results fn tmps).run P ((((w.setCell ⟨g, 0, none⟩ v0).setCell ⟨g, 1, none⟩ v1).setCell ⟨g, 2, none⟩ v2).setCell ⟨g, 3, none⟩ v3) =
      .ok (.agg #[v0, v1, v2, v3]) ((((w.setCell ⟨g, 0, none⟩ v0).setCell ⟨g, 1, none⟩ v1).setCell ⟨g, 2, none⟩ v2).setCell ⟨g, 3, none⟩ v3) := by
  have hb := block_set (block_set (block_set (block_set hg 0 v0) 1 v1) 2 v2) 3 v3
  exact results_cell_row (P := P) h tmps _ g t _ fr d hp hb hu hd (by rw [hi]; simp)

end Go.Proofs.YtapgjjfndbfnpaaDoor.Vw
