/-
  What a walk is told of a slice of strings that came in, and that every such argument can be told so.
-/
import Derived.WalkKit
import Derived.ProofKit
import Derived.OpenShut
import Derived.SliceStrings
namespace Go.Proofs.Ytebliglfofjafaa
open Go.ChangeShapes Go.WideShapes Go.ChangeAt Go.RowKit

/-- A slice of strings: its elements. -/
def IsStrs (w : World) (v : Value) (ss : List ByteArray) : Prop :=
  ∃ (a : Option Addr) (cap : Nat), v = .slice a ss.length cap ∧ (∀ s ∈ ss, s.size ≤ maxLen) ∧ ss.length ≤ maxLen ∧
    (0 < ss.length → ∃ b off, a = some ⟨b, off, none⟩ ∧ b < w.heap.size ∧ ∀ i, (h : i < ss.length) → w.cell? ⟨b, off + i, none⟩ = some (.string ss[i]))

theorem addr_add_spot (x : Addr) (h : x.spot = none) (i : Nat) : x.add i = ⟨x.block, x.off + i, none⟩ := by
  unfold Addr.add
  split
  · rename_i hs; subst hs; cases x; simp_all
  · cases x; simp_all

theorem open_strs {H : Type} {enc : TypeId × Value → H} {P : Program} {w : World} {base : Nat} {t e : TypeId} {v : Value} {d : DataW H} {p : List MemPlace}
    (ht : P.underlying t = some (.slice e)) (he : P.underlying e = some .string) (hc : P.cellsOf e = 1) (hv : Value.okWide P w .any base t v)
    (h : DataW.Trod enc P w 0 (fun _ => true) true t v d p) : ∃ ss, IsStrs w v ss := by
  obtain ⟨a0, len, cap, rfl⟩ := okWide_slice ht hv
  obtain ⟨fuel, hf⟩ := h
  rcases open_strings ht he hc hf with ⟨hcs, _⟩ | ⟨x, l, c, ss, hcs, _, hl, hm, hz, _, hcell, hsz⟩
  · simp [Value.cells] at hcs
    obtain ⟨rfl, rfl, rfl⟩ := hcs
    exact ⟨[], none, 0, rfl, by simp, by simp, fun h => absurd h (by simp)⟩
  · simp [Value.cells] at hcs
    obtain ⟨rfl, rfl, rfl⟩ := hcs
    have hz' : ss.length = cap := by simpa using hz
    have hlen : (ss.take len).length = len := by rw [List.length_take]; omega
    refine ⟨ss.take len, some x, cap, by rw [hlen], fun s hs => hsz s (List.mem_of_mem_take hs), by omega, fun hpos => ?_⟩
    have h0 := hcell 0 (by omega)
    have hsp : x.spot = none := by
      have := World.cell?_spot h0
      simpa [Addr.add] using this
    refine ⟨x.block, x.off, by cases x; simp_all, ?_, fun i hi => ?_⟩
    · have := World.block_lt_of_cell? w _ h0
      rw [addr_add_spot x hsp] at this
      exact this
    · have := hcell i (by omega)
      rw [addr_add_spot x hsp] at this
      rw [this]
      congr 2
      rw [List.getElem_take, List.getD_eq_getElem?_getD, List.getElem?_eq_getElem (by omega), Option.getD_some]
end Go.Proofs.Ytebliglfofjafaa
