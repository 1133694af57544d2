/-
  A row of batches that comes in, opened.
-/
import Derived.Test.YtcgolhaiciffeaaDoorEvLaw4
import Derived.Test.YtcgolhaiciffeaaDoorEvOpen
namespace Go.Proofs.YtcgolhaiciffeaaDoor
open Go.RowKit Go.ChangeShapes Go.WideShapes Go.ChangeAt

theorem open_batches {H : Type} {enc : TypeId × Value → H} {w : World} {base : Nat} {v : Value} {d : DataW H} {p : List MemPlace}
    (hv : Value.okWide Tryd.prog w .any base 42 v) (h : DataW.Trod enc Tryd.prog w 0 (fun _ => true) true 42 v d p) : ∃ l, IsBatches w.heap.size w v l := by
  obtain ⟨a0, len0, cap0, rfl⟩ := okWide_slice Tryd.underlying42 hv
  obtain ⟨fuel, hf⟩ := h
  have hf' : DataW.trod enc Tryd.prog w 0 (fun _ => true) true fuel 42 [.slice a0 len0 cap0] = some (d, p) := by simpa [Value.cells] using hf
  rcases Go.Deep.open_slice Tryd.underlying42 hf' with ⟨hcs, _⟩ | ⟨a, len, cap, m, n, D, Pl, hcs, _, hl, hm, hmm, _, hx⟩
  · injection hcs with e1
    injection e1 with e1 e2 e3
    subst e1 e2 e3
    exact ⟨[], none, 0, rfl, Nat.le_refl _, by unfold maxLen; omega, fun h => absurd h (by simp)⟩
  · injection hcs with e1
    injection e1 with e1 e2 e3
    subst e1 e2 e3
    have hmc : m = cap0 := by rw [hmm]; rfl
    subst hmc
    have each : ∀ i, i < m → ∃ q : BW × Value, w.cell? (a.add (i * 5)) = some (.string q.1.stream) ∧ w.cell? (a.add (i * 5 + 1)) = some (.int .i64 q.1.expect) ∧ w.cell? (a.add (i * 5 + 2)) = some (.int .i64 q.1.session) ∧ w.cell? (a.add (i * 5 + 3)) = some (.int .i64 q.1.seq) ∧ w.cell? (a.add (i * 5 + 4)) = some q.2 ∧ IsEvents w.heap.size w q.2 q.1.events := fun i hi => by
      obtain ⟨cs', h1, h2⟩ := hx i hi
      obtain ⟨b, lv, hcs', he⟩ := open_bcells h2
      rw [cOf_batch] at h1
      obtain ⟨_, hlen, hcell⟩ := World.cells?_some h1
      subst hcs'
      have e0 := hcell 0 (by omega)
      have e1 := hcell 1 (by omega)
      have e2 := hcell 2 (by omega)
      have e3 := hcell 3 (by omega)
      have e4 := hcell 4 (by omega)
      rw [Go.Deep.add_add] at e0 e1 e2 e3 e4
      exact ⟨(b, lv), by simpa using e0, by simpa using e1, by simpa using e2, by simpa using e3, by simpa using e4, he⟩
    have hBi : Inhabited (BW × Value) := ⟨(⟨⟨#[]⟩, 0, 0, 0, []⟩, .int .i64 0)⟩
    obtain ⟨E, hE⟩ := Go.Deep.choose_lt each
    have hlen : ((List.range len0).map (fun i => (E i).1)).length = len0 := by simp
    refine ⟨(List.range len0).map (fun i => (E i).1), some a, m, by rw [hlen], by rw [hlen]; exact hl, hm, fun hp => ?_⟩
    rw [hlen] at hp
    have hsp : a.spot = none := by
      have := World.cell?_spot (hE 0 (by omega)).1
      simpa [Addr.add] using this
    refine ⟨a.block, a.off, congrArg some (by cases a; simp only at hsp; subst hsp; rfl), ?_, fun i hi => ?_⟩
    · have := World.block_lt_of_cell? w _ (hE 0 (by omega)).1
      rw [spotE hsp] at this
      exact this
    · rw [hlen] at hi
      obtain ⟨h0, h1, h2, h3, h4, h5⟩ := hE i (by omega)
      rw [spotE hsp] at h0 h1 h2 h3 h4
      simp only [List.getElem_map, List.getElem_range]
      exact ⟨h0, by rw [Nat.add_assoc]; exact h1, by rw [Nat.add_assoc]; exact h2, by rw [Nat.add_assoc]; exact h3, (E i).2, by rw [Nat.add_assoc]; exact h4, h5⟩
end Go.Proofs.YtcgolhaiciffeaaDoor
