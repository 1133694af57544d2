/-
  CliSame, CliSays, CliView, CliPl, CliPl2, in one text.
-/
import Derived.Test.YtapgjjfndbfnpaaDoorCliAsks
import Derived.BigQuiet
import Derived.IntWalk
import Derived.Test.YtapgjjfndbfnpaaDoorCrTwo
import Derived.Test.YtapgjjfndbfnpaaDoorCliAsk
import Derived.Test.YtapgjjfndbfnpaaDoorCliSmall2
namespace Go.Proofs.YtapgjjfndbfnpaaDoor
open Go.RowKit
set_option linter.unusedSimpArgs false
set_option linter.unusedVariables false

set_option maxRecDepth 100000 in
set_option maxHeartbeats 6400000 in
theorem same_any (o : OpW) (a1 a2 a3 a4 : Option Addr) (k1 k2 k3 k4 : Nat) (w : World) (h1 : IsEvents w.heap.size w (.slice a1 o.b.events.length k1) o.b.events) (h2 : IsEvents w.heap.size w (.slice a2 o.events.length k2) o.events)
    (h3 : IsEvents w.heap.size w (.slice a3 o.b.events.length k3) o.b.events) (h4 : IsEvents w.heap.size w (.slice a4 o.events.length k4) o.events) :
    Calls Tryd.prog 26 #[.agg #[.int .i64 o.kind, .int .i64 o.id, .int .i64 o.start, .int .i64 o.end_, .string o.b.stream, .int .i64 o.b.expect, .int .i64 o.b.session, .int .i64 o.b.seq, .slice a1 o.b.events.length k1, .int .i64 o.out.code, .int .i64 o.out.pos, .int .i64 o.out.first, .int .i64 o.out.version, .string o.stream, .int .i64 o.from_, .int .i64 o.version, .slice a2 o.events.length k2], .agg #[.int .i64 o.kind, .int .i64 o.id, .int .i64 o.start, .int .i64 o.end_, .string o.b.stream, .int .i64 o.b.expect, .int .i64 o.b.session, .int .i64 o.b.seq, .slice a3 o.b.events.length k3, .int .i64 o.out.code, .int .i64 o.out.pos, .int .i64 o.out.first, .int .i64 o.out.version, .string o.stream, .int .i64 o.from_, .int .i64 o.version, .slice a4 o.events.length k4]] w fun e w' => e = .returned (.bool true) ∧ Below w.heap.size w w' := by
  have S1 := Lib.hid (fun (X : World) (hb : Below w.heap.size w X) => sameE_any w.heap.size _ _ o.b.events X (h1.keep hb (Nat.le_refl _)) (h3.keep hb (Nat.le_refl _)))
  have S2 := Lib.hid (fun (X : World) (hb : Below w.heap.size w X) => sameE_any w.heap.size _ _ o.events X (h2.keep hb (Nat.le_refl _)) (h4.keep hb (Nat.le_refl _)))
  have hb0 := (((Below.refl w.heap.size w).alloc (Nat.le_refl _) (.cells #[.int .i64 o.kind, .int .i64 o.id, .int .i64 o.start, .int .i64 o.end_, .string o.b.stream, .int .i64 o.b.expect, .int .i64 o.b.session, .int .i64 o.b.seq, .slice a1 o.b.events.length k1, .int .i64 o.out.code, .int .i64 o.out.pos, .int .i64 o.out.first, .int .i64 o.out.version, .string o.stream, .int .i64 o.from_, .int .i64 o.version, .slice a2 o.events.length k2] 56)).alloc (by rw [World.size_alloc]; omega) (.cells #[.int .i64 o.kind, .int .i64 o.id, .int .i64 o.start, .int .i64 o.end_, .string o.b.stream, .int .i64 o.b.expect, .int .i64 o.b.session, .int .i64 o.b.seq, .slice a3 o.b.events.length k3, .int .i64 o.out.code, .int .i64 o.out.pos, .int .i64 o.out.first, .int .i64 o.out.version, .string o.stream, .int .i64 o.from_, .int .i64 o.version, .slice a4 o.events.length k4] 79)).alloc (by simp only [World.size_alloc]; omega) (.cells #[.string o.b.stream, .int .i64 o.b.expect, .int .i64 o.b.session, .int .i64 o.b.seq, .slice a1 o.b.events.length k1] 24)
  have hg0 : ((((w.alloc (.cells #[.int .i64 o.kind, .int .i64 o.id, .int .i64 o.start, .int .i64 o.end_, .string o.b.stream, .int .i64 o.b.expect, .int .i64 o.b.session, .int .i64 o.b.seq, .slice a1 o.b.events.length k1, .int .i64 o.out.code, .int .i64 o.out.pos, .int .i64 o.out.first, .int .i64 o.out.version, .string o.stream, .int .i64 o.from_, .int .i64 o.version, .slice a2 o.events.length k2] 56)).alloc (.cells #[.int .i64 o.kind, .int .i64 o.id, .int .i64 o.start, .int .i64 o.end_, .string o.b.stream, .int .i64 o.b.expect, .int .i64 o.b.session, .int .i64 o.b.seq, .slice a3 o.b.events.length k3, .int .i64 o.out.code, .int .i64 o.out.pos, .int .i64 o.out.first, .int .i64 o.out.version, .string o.stream, .int .i64 o.from_, .int .i64 o.version, .slice a4 o.events.length k4] 79)).alloc (.cells #[.string o.b.stream, .int .i64 o.b.expect, .int .i64 o.b.session, .int .i64 o.b.seq, .slice a1 o.b.events.length k1] 24))).heap[w.heap.size]? = some (.cells #[.int .i64 o.kind, .int .i64 o.id, .int .i64 o.start, .int .i64 o.end_, .string o.b.stream, .int .i64 o.b.expect, .int .i64 o.b.session, .int .i64 o.b.seq, .slice a1 o.b.events.length k1, .int .i64 o.out.code, .int .i64 o.out.pos, .int .i64 o.out.first, .int .i64 o.out.version, .string o.stream, .int .i64 o.from_, .int .i64 o.version, .slice a2 o.events.length k2] 56) := by
    rw [Below.heap_alloc _ _ _ (by simp only [World.size_alloc]; omega), Below.heap_alloc _ _ _ (by simp only [World.size_alloc]; omega)]
    exact heap_alloc_new w (.cells #[.int .i64 o.kind, .int .i64 o.id, .int .i64 o.start, .int .i64 o.end_, .string o.b.stream, .int .i64 o.b.expect, .int .i64 o.b.session, .int .i64 o.b.seq, .slice a1 o.b.events.length k1, .int .i64 o.out.code, .int .i64 o.out.pos, .int .i64 o.out.first, .int .i64 o.out.version, .string o.stream, .int .i64 o.from_, .int .i64 o.version, .slice a2 o.events.length k2] 56)
  have hg1 : ((((w.alloc (.cells #[.int .i64 o.kind, .int .i64 o.id, .int .i64 o.start, .int .i64 o.end_, .string o.b.stream, .int .i64 o.b.expect, .int .i64 o.b.session, .int .i64 o.b.seq, .slice a1 o.b.events.length k1, .int .i64 o.out.code, .int .i64 o.out.pos, .int .i64 o.out.first, .int .i64 o.out.version, .string o.stream, .int .i64 o.from_, .int .i64 o.version, .slice a2 o.events.length k2] 56)).alloc (.cells #[.int .i64 o.kind, .int .i64 o.id, .int .i64 o.start, .int .i64 o.end_, .string o.b.stream, .int .i64 o.b.expect, .int .i64 o.b.session, .int .i64 o.b.seq, .slice a3 o.b.events.length k3, .int .i64 o.out.code, .int .i64 o.out.pos, .int .i64 o.out.first, .int .i64 o.out.version, .string o.stream, .int .i64 o.from_, .int .i64 o.version, .slice a4 o.events.length k4] 79)).alloc (.cells #[.string o.b.stream, .int .i64 o.b.expect, .int .i64 o.b.session, .int .i64 o.b.seq, .slice a1 o.b.events.length k1] 24))).heap[w.heap.size + 1]? = some (.cells #[.int .i64 o.kind, .int .i64 o.id, .int .i64 o.start, .int .i64 o.end_, .string o.b.stream, .int .i64 o.b.expect, .int .i64 o.b.session, .int .i64 o.b.seq, .slice a3 o.b.events.length k3, .int .i64 o.out.code, .int .i64 o.out.pos, .int .i64 o.out.first, .int .i64 o.out.version, .string o.stream, .int .i64 o.from_, .int .i64 o.version, .slice a4 o.events.length k4] 79) := by
    rw [Below.heap_alloc _ _ _ (by simp only [World.size_alloc]; omega)]
    have := heap_alloc_new (w.alloc (.cells #[.int .i64 o.kind, .int .i64 o.id, .int .i64 o.start, .int .i64 o.end_, .string o.b.stream, .int .i64 o.b.expect, .int .i64 o.b.session, .int .i64 o.b.seq, .slice a1 o.b.events.length k1, .int .i64 o.out.code, .int .i64 o.out.pos, .int .i64 o.out.first, .int .i64 o.out.version, .string o.stream, .int .i64 o.from_, .int .i64 o.version, .slice a2 o.events.length k2] 56)) (.cells #[.int .i64 o.kind, .int .i64 o.id, .int .i64 o.start, .int .i64 o.end_, .string o.b.stream, .int .i64 o.b.expect, .int .i64 o.b.session, .int .i64 o.b.seq, .slice a3 o.b.events.length k3, .int .i64 o.out.code, .int .i64 o.out.pos, .int .i64 o.out.first, .int .i64 o.out.version, .string o.stream, .int .i64 o.from_, .int .i64 o.version, .slice a4 o.events.length k4] 79)
    rwa [World.size_alloc] at this
  have hg2 : ((((w.alloc (.cells #[.int .i64 o.kind, .int .i64 o.id, .int .i64 o.start, .int .i64 o.end_, .string o.b.stream, .int .i64 o.b.expect, .int .i64 o.b.session, .int .i64 o.b.seq, .slice a1 o.b.events.length k1, .int .i64 o.out.code, .int .i64 o.out.pos, .int .i64 o.out.first, .int .i64 o.out.version, .string o.stream, .int .i64 o.from_, .int .i64 o.version, .slice a2 o.events.length k2] 56)).alloc (.cells #[.int .i64 o.kind, .int .i64 o.id, .int .i64 o.start, .int .i64 o.end_, .string o.b.stream, .int .i64 o.b.expect, .int .i64 o.b.session, .int .i64 o.b.seq, .slice a3 o.b.events.length k3, .int .i64 o.out.code, .int .i64 o.out.pos, .int .i64 o.out.first, .int .i64 o.out.version, .string o.stream, .int .i64 o.from_, .int .i64 o.version, .slice a4 o.events.length k4] 79)).alloc (.cells #[.string o.b.stream, .int .i64 o.b.expect, .int .i64 o.b.session, .int .i64 o.b.seq, .slice a1 o.b.events.length k1] 24))).heap[w.heap.size + 1 + 1]? = some (.cells #[.string o.b.stream, .int .i64 o.b.expect, .int .i64 o.b.session, .int .i64 o.b.seq, .slice a1 o.b.events.length k1] 24) := by
    have := heap_alloc_new ((w.alloc (.cells #[.int .i64 o.kind, .int .i64 o.id, .int .i64 o.start, .int .i64 o.end_, .string o.b.stream, .int .i64 o.b.expect, .int .i64 o.b.session, .int .i64 o.b.seq, .slice a1 o.b.events.length k1, .int .i64 o.out.code, .int .i64 o.out.pos, .int .i64 o.out.first, .int .i64 o.out.version, .string o.stream, .int .i64 o.from_, .int .i64 o.version, .slice a2 o.events.length k2] 56)).alloc (.cells #[.int .i64 o.kind, .int .i64 o.id, .int .i64 o.start, .int .i64 o.end_, .string o.b.stream, .int .i64 o.b.expect, .int .i64 o.b.session, .int .i64 o.b.seq, .slice a3 o.b.events.length k3, .int .i64 o.out.code, .int .i64 o.out.pos, .int .i64 o.out.first, .int .i64 o.out.version, .string o.stream, .int .i64 o.from_, .int .i64 o.version, .slice a4 o.events.length k4] 79)) (.cells #[.string o.b.stream, .int .i64 o.b.expect, .int .i64 o.b.session, .int .i64 o.b.seq, .slice a1 o.b.events.length k1] 24)
    rwa [World.size_alloc, World.size_alloc] at this
  have HB0 := Lib.hid hb0
  have G0 := Lib.hid hg0
  have G1 := Lib.hid hg1
  have G2 := Lib.hid hg2
  clear h1 h2 h3 h4 hb0 hg0 hg1 hg2
  go_enter Tryd.func26, Tryd.ntmps26
  go_upto_region 2 with fail
  generalize (((w.alloc (.cells #[.int .i64 o.kind, .int .i64 o.id, .int .i64 o.start, .int .i64 o.end_, .string o.b.stream, .int .i64 o.b.expect, .int .i64 o.b.session, .int .i64 o.b.seq, .slice a1 o.b.events.length k1, .int .i64 o.out.code, .int .i64 o.out.pos, .int .i64 o.out.first, .int .i64 o.out.version, .string o.stream, .int .i64 o.from_, .int .i64 o.version, .slice a2 o.events.length k2] 56)).alloc (.cells #[.int .i64 o.kind, .int .i64 o.id, .int .i64 o.start, .int .i64 o.end_, .string o.b.stream, .int .i64 o.b.expect, .int .i64 o.b.session, .int .i64 o.b.seq, .slice a3 o.b.events.length k3, .int .i64 o.out.code, .int .i64 o.out.pos, .int .i64 o.out.first, .int .i64 o.out.version, .string o.stream, .int .i64 o.from_, .int .i64 o.version, .slice a4 o.events.length k4] 79)).alloc (.cells #[.string o.b.stream, .int .i64 o.b.expect, .int .i64 o.b.session, .int .i64 o.b.seq, .slice a1 o.b.events.length k1] 24)) = w3 at *
  have x0 : w3.cell? ⟨w.heap.size, 0, none⟩ = some (.int .i64 o.kind) := by rw [Lib.cell_of_heap G0.out]; rfl
  have x1 : w3.cell? ⟨w.heap.size, 1, none⟩ = some (.int .i64 o.id) := by rw [Lib.cell_of_heap G0.out]; rfl
  have x2 : w3.cell? ⟨w.heap.size, 2, none⟩ = some (.int .i64 o.start) := by rw [Lib.cell_of_heap G0.out]; rfl
  have x3 : w3.cell? ⟨w.heap.size, 3, none⟩ = some (.int .i64 o.end_) := by rw [Lib.cell_of_heap G0.out]; rfl
  have x9 : w3.cell? ⟨w.heap.size, 9, none⟩ = some (.int .i64 o.out.code) := by rw [Lib.cell_of_heap G0.out]; rfl
  have x10 : w3.cell? ⟨w.heap.size, 10, none⟩ = some (.int .i64 o.out.pos) := by rw [Lib.cell_of_heap G0.out]; rfl
  have x11 : w3.cell? ⟨w.heap.size, 11, none⟩ = some (.int .i64 o.out.first) := by rw [Lib.cell_of_heap G0.out]; rfl
  have x12 : w3.cell? ⟨w.heap.size, 12, none⟩ = some (.int .i64 o.out.version) := by rw [Lib.cell_of_heap G0.out]; rfl
  have x13 : w3.cell? ⟨w.heap.size, 13, none⟩ = some (.string o.stream) := by rw [Lib.cell_of_heap G0.out]; rfl
  have x14 : w3.cell? ⟨w.heap.size, 14, none⟩ = some (.int .i64 o.from_) := by rw [Lib.cell_of_heap G0.out]; rfl
  have x15 : w3.cell? ⟨w.heap.size, 15, none⟩ = some (.int .i64 o.version) := by rw [Lib.cell_of_heap G0.out]; rfl
  have x16 : w3.cell? ⟨w.heap.size, 16, none⟩ = some (.slice a2 o.events.length k2) := by rw [Lib.cell_of_heap G0.out]; rfl
  have y0 : w3.cell? ⟨w.heap.size + 1, 0, none⟩ = some (.int .i64 o.kind) := by rw [Lib.cell_of_heap G1.out]; rfl
  have y1 : w3.cell? ⟨w.heap.size + 1, 1, none⟩ = some (.int .i64 o.id) := by rw [Lib.cell_of_heap G1.out]; rfl
  have y2 : w3.cell? ⟨w.heap.size + 1, 2, none⟩ = some (.int .i64 o.start) := by rw [Lib.cell_of_heap G1.out]; rfl
  have y3 : w3.cell? ⟨w.heap.size + 1, 3, none⟩ = some (.int .i64 o.end_) := by rw [Lib.cell_of_heap G1.out]; rfl
  have y4 : w3.cell? ⟨w.heap.size + 1, 4, none⟩ = some (.string o.b.stream) := by rw [Lib.cell_of_heap G1.out]; rfl
  have y5 : w3.cell? ⟨w.heap.size + 1, 5, none⟩ = some (.int .i64 o.b.expect) := by rw [Lib.cell_of_heap G1.out]; rfl
  have y6 : w3.cell? ⟨w.heap.size + 1, 6, none⟩ = some (.int .i64 o.b.session) := by rw [Lib.cell_of_heap G1.out]; rfl
  have y7 : w3.cell? ⟨w.heap.size + 1, 7, none⟩ = some (.int .i64 o.b.seq) := by rw [Lib.cell_of_heap G1.out]; rfl
  have y8 : w3.cell? ⟨w.heap.size + 1, 8, none⟩ = some (.slice a3 o.b.events.length k3) := by rw [Lib.cell_of_heap G1.out]; rfl
  have y9 : w3.cell? ⟨w.heap.size + 1, 9, none⟩ = some (.int .i64 o.out.code) := by rw [Lib.cell_of_heap G1.out]; rfl
  have y10 : w3.cell? ⟨w.heap.size + 1, 10, none⟩ = some (.int .i64 o.out.pos) := by rw [Lib.cell_of_heap G1.out]; rfl
  have y11 : w3.cell? ⟨w.heap.size + 1, 11, none⟩ = some (.int .i64 o.out.first) := by rw [Lib.cell_of_heap G1.out]; rfl
  have y12 : w3.cell? ⟨w.heap.size + 1, 12, none⟩ = some (.int .i64 o.out.version) := by rw [Lib.cell_of_heap G1.out]; rfl
  have y13 : w3.cell? ⟨w.heap.size + 1, 13, none⟩ = some (.string o.stream) := by rw [Lib.cell_of_heap G1.out]; rfl
  have y14 : w3.cell? ⟨w.heap.size + 1, 14, none⟩ = some (.int .i64 o.from_) := by rw [Lib.cell_of_heap G1.out]; rfl
  have y15 : w3.cell? ⟨w.heap.size + 1, 15, none⟩ = some (.int .i64 o.version) := by rw [Lib.cell_of_heap G1.out]; rfl
  have y16 : w3.cell? ⟨w.heap.size + 1, 16, none⟩ = some (.slice a4 o.events.length k4) := by rw [Lib.cell_of_heap G1.out]; rfl
  have z0 : w3.cell? ⟨w.heap.size + 1 + 1, 0, none⟩ = some (.string o.b.stream) := by rw [Lib.cell_of_heap G2.out]; rfl
  have z1 : w3.cell? ⟨w.heap.size + 1 + 1, 1, none⟩ = some (.int .i64 o.b.expect) := by rw [Lib.cell_of_heap G2.out]; rfl
  have z2 : w3.cell? ⟨w.heap.size + 1 + 1, 2, none⟩ = some (.int .i64 o.b.session) := by rw [Lib.cell_of_heap G2.out]; rfl
  have z3 : w3.cell? ⟨w.heap.size + 1 + 1, 3, none⟩ = some (.int .i64 o.b.seq) := by rw [Lib.cell_of_heap G2.out]; rfl
  have z4 : w3.cell? ⟨w.heap.size + 1 + 1, 4, none⟩ = some (.slice a1 o.b.events.length k1) := by rw [Lib.cell_of_heap G2.out]; rfl
  have hz2 : w.heap.size + 1 + 1 < w3.heap.size := (Array.getElem?_eq_some_iff.1 G2.out).1
  have hz1 : w.heap.size + 1 < w3.heap.size := by omega
  have hz0 : w.heap.size < w3.heap.size := by omega
  have hn2 : w.heap.size + 1 + 1 ≠ w3.heap.size := by omega
  have hn1 : w.heap.size + 1 ≠ w3.heap.size := by omega
  have hn0 : w.heap.size ≠ w3.heap.size := by omega
  have HB4 := Lib.hid (HB0.out.alloc (Nat.le_of_lt hz0) (.cells #[.string o.b.stream, .int .i64 o.b.expect, .int .i64 o.b.session, .int .i64 o.b.seq, .slice a3 o.b.events.length k3] 24))
  go_wp2_with fail
  refine (S2.out _ HB4.out).mono ?_
  rintro e w5 ⟨rfl, n5, rfl⟩
  go_wp2_with fail
  refine (S1.out _ (below_drewN HB4.out n5)).mono ?_
  rintro e w6 ⟨rfl, n6, rfl⟩
  go_wp2_with fail
  go_ret
  exact ⟨rfl, below_drewN HB4.out _⟩
end Go.Proofs.YtapgjjfndbfnpaaDoor
namespace Go.Proofs.YtapgjjfndbfnpaaDoor
open Go.RowKit
set_option linter.unusedSimpArgs false
set_option linter.unusedVariables false

/-- Is what is told of this op? -/
def GoodO (o : OpW) (x : OutW) : Prop :=
  match x.m with
  | .whr _ => x.dst = 0
  | .app _ b => x.dst ≠ 0 ∧ o.kind = 1 ∧ b.seq = o.b.seq ∧ b.stream = o.b.stream ∧ b.session = o.b.session ∧ b.events = o.b.events
  | .red _ s f => x.dst ≠ 0 ∧ o.kind = 2 ∧ s = o.stream ∧ f = o.from_
theorem outCells_at : ∀ (l : List OutR) (i : Nat) (h : i < l.length), (outCells l)[i * 2]? = some (.int .i64 l[i].dst) ∧ (outCells l)[i * 2 + 1]? = some l[i].m.val
  | x :: l, 0, _ => ⟨rfl, rfl⟩
  | x :: l, i + 1, h => by
    have := outCells_at l i (by simpa using h)
    have e : outCells (x :: l) = .int .i64 x.dst :: x.m.val :: outCells l := rfl
    rw [e, show (i + 1) * 2 = i * 2 + 1 + 1 by omega]
    simpa using this
theorem routCells_at : ∀ (l : List (Int × Int)) (i : Nat) (h : i < l.length), (Rf.routCells l)[i * 2]? = some (.int .i64 l[i].1) ∧ (Rf.routCells l)[i * 2 + 1]? = some (.int .i64 l[i].2)
  | x :: l, 0, _ => ⟨rfl, rfl⟩
  | x :: l, i + 1, h => by
    have := routCells_at l i (by simpa using h)
    have e : Rf.routCells (x :: l) = .int .i64 x.1 :: .int .i64 x.2 :: Rf.routCells l := rfl
    rw [e, show (i + 1) * 2 = i * 2 + 1 + 1 by omega]
    simpa using this
theorem OutsAt.form {B : Nat} {w : World} {v : Value} {l : List OutR} (h : OutsAt B w v l) : ∃ a, v = .slice a l.length l.length := by
  rcases h with ⟨e1, e2⟩ | ⟨b, e, _⟩
  · exact ⟨none, by rw [e1, e2]; rfl⟩
  · exact ⟨_, e⟩
theorem routs_form {B : Nat} {w : World} {v : Value} {l : List (Int × Int)} (h : Rf.ROutsAt B w v l) : ∃ a, v = .slice a l.length l.length := by
  rcases h with ⟨e1, e2⟩ | ⟨b, e, _⟩
  · exact ⟨none, by rw [e1, e2]; rfl⟩
  · exact ⟨_, e⟩
theorem OutsAt.at {B : Nat} {w : World} {v : Value} {l : List OutR} (h : OutsAt B w v l) (i : Nat) (hi : i < l.length) : ∃ b, v = .slice (some ⟨b, 0, none⟩) l.length l.length ∧ b < w.heap.size ∧ w.cell? ⟨b, i * 2, none⟩ = some (.int .i64 l[i].dst) ∧ w.cell? ⟨b, i * 2 + 1, none⟩ = some l[i].m.val := by
  rcases h with ⟨_, e⟩ | ⟨b, e, _, hg⟩
  · subst e; exact absurd hi (by simp)
  · have := outCells_at l i hi
    exact ⟨b, e, (Array.getElem?_eq_some_iff.1 hg).1, by rw [Lib.cell_of_heap hg, List.getElem?_toArray]; exact this.1, by rw [Lib.cell_of_heap hg, List.getElem?_toArray]; exact this.2⟩
theorem routs_at {B : Nat} {w : World} {v : Value} {l : List (Int × Int)} (h : Rf.ROutsAt B w v l) (i : Nat) (hi : i < l.length) : ∃ b, v = .slice (some ⟨b, 0, none⟩) l.length l.length ∧ b < w.heap.size ∧ w.cell? ⟨b, i * 2, none⟩ = some (.int .i64 l[i].1) ∧ w.cell? ⟨b, i * 2 + 1, none⟩ = some (.int .i64 l[i].2) := by
  rcases h with ⟨_, e⟩ | ⟨b, e, _, hg⟩
  · subst e; exact absurd hi (by simp)
  · have := routCells_at l i hi
    exact ⟨b, e, (Array.getElem?_eq_some_iff.1 hg).1, by rw [Lib.cell_of_heap hg, List.getElem?_toArray]; exact this.1, by rw [Lib.cell_of_heap hg, List.getElem?_toArray]; exact this.2⟩

set_option maxRecDepth 100000 in
set_option maxHeartbeats 6400000 in
theorem says_any (lo : Nat) (outs : List OutR) (va vb : Value) (o : OpW) (a3 a4 : Option Addr) (k3 k4 : Nat) (w : World) (hA : OutsAt lo w va outs) (hB : Rf.ROutsAt lo w vb (Rf.outP (outs.map OutR.plain)))
    (hev : ∀ x ∈ outs, ∀ id b bev, x.m = .app id b bev → IsEvents w.heap.size w bev b.events) (hg : ∀ x ∈ outs, GoodO o x.plain) (h3 : IsEvents w.heap.size w (.slice a3 o.b.events.length k3) o.b.events) (hlen : outs.length ≤ 1000) :
    Calls Tryd.prog 25 #[va, vb, .agg #[.int .i64 o.kind, .int .i64 o.id, .int .i64 o.start, .int .i64 o.end_, .string o.b.stream, .int .i64 o.b.expect, .int .i64 o.b.session, .int .i64 o.b.seq, .slice a3 o.b.events.length k3, .int .i64 o.out.code, .int .i64 o.out.pos, .int .i64 o.out.first, .int .i64 o.out.version, .string o.stream, .int .i64 o.from_, .int .i64 o.version, .slice a4 o.events.length k4]] w fun e w' => e = .returned (.bool true) ∧ Below w.heap.size w w' := by
  have hln : (Rf.outP (outs.map OutR.plain)).length = outs.length := by simp [Rf.outP]
  obtain ⟨aa, rfl⟩ := hA.form
  obtain ⟨ab, rfl⟩ := routs_form hB
  have HA := Lib.hid hA
  have HB := Lib.hid hB
  have HEV := Lib.hid hev
  have HG := Lib.hid hg
  have H3 := Lib.hid h3
  have HLN := Lib.hid hln
  have hA0 := (Below.refl w.heap.size w).alloc (Nat.le_refl _) (.cells #[.int .i64 o.kind, .int .i64 o.id, .int .i64 o.start, .int .i64 o.end_, .string o.b.stream, .int .i64 o.b.expect, .int .i64 o.b.session, .int .i64 o.b.seq, .slice a3 o.b.events.length k3, .int .i64 o.out.code, .int .i64 o.out.pos, .int .i64 o.out.first, .int .i64 o.out.version, .string o.stream, .int .i64 o.from_, .int .i64 o.version, .slice a4 o.events.length k4] 79)
  have HA0 := Lib.hid hA0
  rw [hln]
  clear hA hB hev hg h3 hln hA0
  go_enter Tryd.func25, Tryd.ntmps25
  go_wp2_with fail
  go_loopw [7] (fun t7 wr => ∃ k : Nat, k ≤ outs.length ∧ t7 = .int .i64 k ∧ Below (w.alloc (.cells #[.int .i64 o.kind, .int .i64 o.id, .int .i64 o.start, .int .i64 o.end_, .string o.b.stream, .int .i64 o.b.expect, .int .i64 o.b.session, .int .i64 o.b.seq, .slice a3 o.b.events.length k3, .int .i64 o.out.code, .int .i64 o.out.pos, .int .i64 o.out.first, .int .i64 o.out.version, .string o.stream, .int .i64 o.from_, .int .i64 o.version, .slice a4 o.events.length k4] 79)).heap.size (w.alloc (.cells #[.int .i64 o.kind, .int .i64 o.id, .int .i64 o.start, .int .i64 o.end_, .string o.b.stream, .int .i64 o.b.expect, .int .i64 o.b.session, .int .i64 o.b.seq, .slice a3 o.b.events.length k3, .int .i64 o.out.code, .int .i64 o.out.pos, .int .i64 o.out.first, .int .i64 o.out.version, .string o.stream, .int .i64 o.from_, .int .i64 o.version, .slice a4 o.events.length k4] 79)) wr) (fun t7 _ => outs.length - (intOf t7).toNat)
  case atStart => exact ⟨0, Nat.zero_le _, rfl, Below.refl _ _⟩
  case round =>
    obtain ⟨k, hk, rfl, hbr⟩ := hrel
    have HBR := Lib.hid hbr
    have HBW := Lib.hid (HA0.out.trans (hbr.mono HA0.out.size))
    clear hbr
    by_cases hlt : k < outs.length
    · obtain ⟨cb, he, hcl, c0, c1⟩ := (show OutsAt lo wr _ outs from HA.out.below HBW.out).at k hlt
      obtain rfl : aa = some ⟨cb, 0, none⟩ := by injection he
      clear he
      obtain ⟨rb, he, hrl, r0, r1⟩ := routs_at (show Rf.ROutsAt lo wr _ _ from by
        rcases HB.out with h | ⟨b, h1, h2, h3⟩
        · exact .inl h
        · exact .inr ⟨b, h1, h2, (HBW.out.block b (Array.getElem?_eq_some_iff.1 h3).1).trans h3⟩) k (by rw [HLN.out]; exact hlt)
      obtain rfl : ab = some ⟨rb, 0, none⟩ := by injection he
      clear he
      obtain ⟨x, hx⟩ : ∃ x, outs[k] = x := ⟨_, rfl⟩
      have hxm : x ∈ outs := by rw [← hx]; exact List.getElem_mem _
      have hgood := HG.out x hxm
      have hp : (Rf.outP (outs.map OutR.plain))[k]'(by rw [HLN.out]; exact hlt) = (x.dst, Rf.mid x.m.plain) := by simp [Rf.outP, hx, OutR.plain]
      rw [hp] at r0 r1
      rw [hx] at c0 c1
      simp only at r0 r1
      have hevx := HEV.out x hxm
      have i1 : (0 : Int) ≤ (k : Int) := by omega
      have i2 : (k : Int) < (outs.length : Int) := by omega
      clear hx hxm hp
      obtain ⟨dst, m⟩ := x
      simp only [OutR.plain] at hgood hevx r0 r1 c0 c1
      cases m with
      | whr id =>
        simp only [MsgR.val, MsgR.plain, Rf.mid] at r0 r1 c0 c1
        obtain rfl : dst = 0 := hgood
        have t1 : ∀ (W : World) (v : Value), (Instr.typeAssert (.iface 118 v) 48 118 true).run Tryd.prog W = .ok (.tuple #[v, .bool true]) W := fun W v => by kernel_rfl
        go_wp2_with fail
        go_quiet (fail)
        have HBR2 := Lib.hid (below_drewN HBR.out nq)
        have hcl2 : cb < (wr.drewN nq).heap.size := hcl
        have hrl2 : rb < (wr.drewN nq).heap.size := hrl
        have c1' : (wr.drewN nq).cell? ⟨cb, k * 2 + 1, none⟩ = _ := c1
        have r0' : (wr.drewN nq).cell? ⟨rb, k * 2, none⟩ = _ := r0
        have r1' : (wr.drewN nq).cell? ⟨rb, k * 2 + 1, none⟩ = _ := r1
        clear c0 c1 r0 r1 hcl hrl
        generalize wr.drewN nq = wq at *
        have HGB := Lib.hid (heap_alloc_new wq (.cells #[.int .i64 id] 118))
        have HAB := Lib.hid ((Below.refl wq.heap.size wq).alloc (Nat.le_refl _) (.cells #[.int .i64 id] 118))
        have HX0 := Lib.hid ((HAB.out.cell (p := ⟨rb, k * 2, none⟩) hrl2).trans r0')
        have HX1 := Lib.hid ((HAB.out.cell (p := ⟨rb, k * 2 + 1, none⟩) hrl2).trans r1')
        have hzw : w.heap.size < wq.heap.size := by have := HBR2.out.size; rw [World.size_alloc] at this; omega
        have GO := Lib.hid ((HAB.out.block w.heap.size hzw).trans ((HBR2.out.block w.heap.size (by rw [World.size_alloc]; omega)).trans (heap_alloc_new w (.cells #[.int .i64 o.kind, .int .i64 o.id, .int .i64 o.start, .int .i64 o.end_, .string o.b.stream, .int .i64 o.b.expect, .int .i64 o.b.session, .int .i64 o.b.seq, .slice a3 o.b.events.length k3, .int .i64 o.out.code, .int .i64 o.out.pos, .int .i64 o.out.first, .int .i64 o.out.version, .string o.stream, .int .i64 o.from_, .int .i64 o.version, .slice a4 o.events.length k4] 79))))
        have HBF := Lib.hid (HBR2.out.trans (HAB.out.mono HBR2.out.size))
        clear r0' r1' hzw hrl2
        go_upto_region 13 with fail
        clear c1' hcl2
        generalize wq.alloc (.cells #[.int .i64 id] 118) = wz at *
        generalize wq.heap.size = qb at *
        have r0 := HX0.out
        have r1 := HX1.out
        have b0 : wz.cell? ⟨qb, 0, none⟩ = some (.int .i64 id) := by rw [Lib.cell_of_heap HGB.out]; rfl
        go_quiet (fail)
        go_wp2_with fail
        go_roundw
        case rel => exact ⟨k + 1, by omega, by go_num, below_drewN HBF.out nq⟩
        case measure => simp [intOf]; omega
      | app id b bev =>
        have hie := hevx id b bev rfl
        obtain ⟨ba, bk, rfl⟩ := hie.form
        simp only [MsgR.val, MsgR.plain, Rf.mid] at r0 r1 c0 c1
        obtain ⟨hd, hkd, hsq, hss, hse, hve⟩ := (show dst ≠ 0 ∧ o.kind = 1 ∧ b.seq = o.b.seq ∧ b.stream = o.b.stream ∧ b.session = o.b.session ∧ b.events = o.b.events from hgood)
        rw [hve] at hie c1
        rw [hsq, hss, hse] at c1
        have HIE := Lib.hid hie
        have g0 : (dst == 0) = false := by rw [beq_eq_false_iff_ne]; exact hd
        have g1 : (o.kind != 1) = false := by rw [bne_eq_false_iff_eq]; exact hkd
        clear hd hkd hsq hss hse hve hie hgood hevx
        have t1 : ∀ (W : World) (v : Value), (Instr.typeAssert (.iface 52 v) 48 118 true).run Tryd.prog W = .ok (.tuple #[(.agg #[.int .i64 0]), .bool false]) W := fun W v => by kernel_rfl
        have t2 : ∀ (W : World) (v : Value), (Instr.typeAssert (.iface 52 v) 48 52 true).run Tryd.prog W = .ok (.tuple #[v, .bool true]) W := fun W v => by kernel_rfl
        go_wp2_with fail
        go_quiet (fail)
        have HBR2 := Lib.hid (below_drewN HBR.out nq)
        have hcl2 : cb < (wr.drewN nq).heap.size := hcl
        have hrl2 : rb < (wr.drewN nq).heap.size := hrl
        have c1' : (wr.drewN nq).cell? ⟨cb, k * 2 + 1, none⟩ = _ := c1
        have r0' : (wr.drewN nq).cell? ⟨rb, k * 2, none⟩ = _ := r0
        have r1' : (wr.drewN nq).cell? ⟨rb, k * 2 + 1, none⟩ = _ := r1
        clear c0 c1 r0 r1 hcl hrl
        generalize wr.drewN nq = wq at *
        have HGB := Lib.hid (heap_alloc_new wq (.cells #[.int .i64 id, .string o.b.stream, .int .i64 b.expect, .int .i64 o.b.session, .int .i64 o.b.seq, .slice ba o.b.events.length bk] 52))
        have HAB := Lib.hid ((Below.refl wq.heap.size wq).alloc (Nat.le_refl _) (.cells #[.int .i64 id, .string o.b.stream, .int .i64 b.expect, .int .i64 o.b.session, .int .i64 o.b.seq, .slice ba o.b.events.length bk] 52))
        have HX0 := Lib.hid ((HAB.out.cell (p := ⟨rb, k * 2, none⟩) hrl2).trans r0')
        have HX1 := Lib.hid ((HAB.out.cell (p := ⟨rb, k * 2 + 1, none⟩) hrl2).trans r1')
        have hzw : w.heap.size < wq.heap.size := by have := HBR2.out.size; rw [World.size_alloc] at this; omega
        have GO := Lib.hid ((HAB.out.block w.heap.size hzw).trans ((HBR2.out.block w.heap.size (by rw [World.size_alloc]; omega)).trans (heap_alloc_new w (.cells #[.int .i64 o.kind, .int .i64 o.id, .int .i64 o.start, .int .i64 o.end_, .string o.b.stream, .int .i64 o.b.expect, .int .i64 o.b.session, .int .i64 o.b.seq, .slice a3 o.b.events.length k3, .int .i64 o.out.code, .int .i64 o.out.pos, .int .i64 o.out.first, .int .i64 o.out.version, .string o.stream, .int .i64 o.from_, .int .i64 o.version, .slice a4 o.events.length k4] 79))))
        have HBF := Lib.hid (HBR2.out.trans (HAB.out.mono HBR2.out.size))
        clear r0' r1' hzw hrl2
        go_upto_region 17 with fail
        clear c1' hcl2
        generalize wq.alloc (.cells #[.int .i64 id, .string o.b.stream, .int .i64 b.expect, .int .i64 o.b.session, .int .i64 o.b.seq, .slice ba o.b.events.length bk] 52) = wz at *
        generalize wq.heap.size = qb at *
        have r0 := HX0.out
        have r1 := HX1.out
        have b0 : wz.cell? ⟨qb, 0, none⟩ = some (.int .i64 id) := by rw [Lib.cell_of_heap HGB.out]; rfl
        have b1 : wz.cell? ⟨qb, 1, none⟩ = some (.string o.b.stream) := by rw [Lib.cell_of_heap HGB.out]; rfl
        have b2 : wz.cell? ⟨qb, 2, none⟩ = some (.int .i64 b.expect) := by rw [Lib.cell_of_heap HGB.out]; rfl
        have b3 : wz.cell? ⟨qb, 3, none⟩ = some (.int .i64 o.b.session) := by rw [Lib.cell_of_heap HGB.out]; rfl
        have b4 : wz.cell? ⟨qb, 4, none⟩ = some (.int .i64 o.b.seq) := by rw [Lib.cell_of_heap HGB.out]; rfl
        have b5 : wz.cell? ⟨qb, 5, none⟩ = some (.slice ba o.b.events.length bk) := by rw [Lib.cell_of_heap HGB.out]; rfl
        have CSE := Lib.hid (fun n : Nat => sameE_any w.heap.size _ _ o.b.events (wz.drewN n) (HIE.out.keep (below_drewN (HA0.out.trans (HBF.out.mono HA0.out.size)) n) (Nat.le_refl _)) (H3.out.keep (below_drewN (HA0.out.trans (HBF.out.mono HA0.out.size)) n) (Nat.le_refl _)))
        have q0 : wz.cell? ⟨w.heap.size, 0, none⟩ = some (.int .i64 o.kind) := by rw [Lib.cell_of_heap GO.out]; rfl
        have q4 : wz.cell? ⟨w.heap.size, 4, none⟩ = some (.string o.b.stream) := by rw [Lib.cell_of_heap GO.out]; rfl
        have q6 : wz.cell? ⟨w.heap.size, 6, none⟩ = some (.int .i64 o.b.session) := by rw [Lib.cell_of_heap GO.out]; rfl
        have q7 : wz.cell? ⟨w.heap.size, 7, none⟩ = some (.int .i64 o.b.seq) := by rw [Lib.cell_of_heap GO.out]; rfl
        have q8 : wz.cell? ⟨w.heap.size, 8, none⟩ = some (.slice a3 o.b.events.length k3) := by rw [Lib.cell_of_heap GO.out]; rfl
        go_quiet (refine Calls.quiet_of (CSE.out _))
        go_wp2_with fail
        go_roundw
        case rel => exact ⟨k + 1, by omega, by go_num, below_drewN HBF.out nq⟩
        case measure => simp [intOf]; omega
      | red id s f =>
        simp only [MsgR.val, MsgR.plain, Rf.mid] at r0 r1 c0 c1
        obtain ⟨hd, hkd, hs, hf⟩ := (show dst ≠ 0 ∧ o.kind = 2 ∧ s = o.stream ∧ f = o.from_ from hgood)
        rw [hs, hf] at c1
        have g0 : (dst == 0) = false := by rw [beq_eq_false_iff_ne]; exact hd
        have g1 : (o.kind != 2) = false := by rw [bne_eq_false_iff_eq]; exact hkd
        clear hd hkd hs hf hgood hevx
        have t1 : ∀ (W : World) (v : Value), (Instr.typeAssert (.iface 120 v) 48 118 true).run Tryd.prog W = .ok (.tuple #[(.agg #[.int .i64 0]), .bool false]) W := fun W v => by kernel_rfl
        have t2 : ∀ (W : World) (v : Value), (Instr.typeAssert (.iface 120 v) 48 52 true).run Tryd.prog W = .ok (.tuple #[(.agg #[.int .i64 0, .string ⟨#[]⟩, .int .i64 0, .int .i64 0, .int .i64 0, .slice none 0 0]), .bool false]) W := fun W v => by kernel_rfl
        have t3 : ∀ (W : World) (v : Value), (Instr.typeAssert (.iface 120 v) 48 120 true).run Tryd.prog W = .ok (.tuple #[v, .bool true]) W := fun W v => by kernel_rfl
        go_wp2_with fail
        go_quiet (fail)
        have HBR2 := Lib.hid (below_drewN HBR.out nq)
        have hcl2 : cb < (wr.drewN nq).heap.size := hcl
        have hrl2 : rb < (wr.drewN nq).heap.size := hrl
        have c1' : (wr.drewN nq).cell? ⟨cb, k * 2 + 1, none⟩ = _ := c1
        have r0' : (wr.drewN nq).cell? ⟨rb, k * 2, none⟩ = _ := r0
        have r1' : (wr.drewN nq).cell? ⟨rb, k * 2 + 1, none⟩ = _ := r1
        clear c0 c1 r0 r1 hcl hrl
        generalize wr.drewN nq = wq at *
        have HGB := Lib.hid (heap_alloc_new wq (.cells #[.int .i64 id, .string o.stream, .int .i64 o.from_] 120))
        have HAB := Lib.hid ((Below.refl wq.heap.size wq).alloc (Nat.le_refl _) (.cells #[.int .i64 id, .string o.stream, .int .i64 o.from_] 120))
        have HX0 := Lib.hid ((HAB.out.cell (p := ⟨rb, k * 2, none⟩) hrl2).trans r0')
        have HX1 := Lib.hid ((HAB.out.cell (p := ⟨rb, k * 2 + 1, none⟩) hrl2).trans r1')
        have hzw : w.heap.size < wq.heap.size := by have := HBR2.out.size; rw [World.size_alloc] at this; omega
        have GO := Lib.hid ((HAB.out.block w.heap.size hzw).trans ((HBR2.out.block w.heap.size (by rw [World.size_alloc]; omega)).trans (heap_alloc_new w (.cells #[.int .i64 o.kind, .int .i64 o.id, .int .i64 o.start, .int .i64 o.end_, .string o.b.stream, .int .i64 o.b.expect, .int .i64 o.b.session, .int .i64 o.b.seq, .slice a3 o.b.events.length k3, .int .i64 o.out.code, .int .i64 o.out.pos, .int .i64 o.out.first, .int .i64 o.out.version, .string o.stream, .int .i64 o.from_, .int .i64 o.version, .slice a4 o.events.length k4] 79))))
        have HBF := Lib.hid (HBR2.out.trans (HAB.out.mono HBR2.out.size))
        clear r0' r1' hzw hrl2
        go_upto_region 21 with fail
        clear c1' hcl2
        generalize wq.alloc (.cells #[.int .i64 id, .string o.stream, .int .i64 o.from_] 120) = wz at *
        generalize wq.heap.size = qb at *
        have r0 := HX0.out
        have r1 := HX1.out
        have b0 : wz.cell? ⟨qb, 0, none⟩ = some (.int .i64 id) := by rw [Lib.cell_of_heap HGB.out]; rfl
        have b1 : wz.cell? ⟨qb, 1, none⟩ = some (.string o.stream) := by rw [Lib.cell_of_heap HGB.out]; rfl
        have b2 : wz.cell? ⟨qb, 2, none⟩ = some (.int .i64 o.from_) := by rw [Lib.cell_of_heap HGB.out]; rfl
        have q0 : wz.cell? ⟨w.heap.size, 0, none⟩ = some (.int .i64 o.kind) := by rw [Lib.cell_of_heap GO.out]; rfl
        have q13 : wz.cell? ⟨w.heap.size, 13, none⟩ = some (.string o.stream) := by rw [Lib.cell_of_heap GO.out]; rfl
        have q14 : wz.cell? ⟨w.heap.size, 14, none⟩ = some (.int .i64 o.from_) := by rw [Lib.cell_of_heap GO.out]; rfl
        go_quiet (fail)
        go_wp2_with fail
        go_roundw
        case rel => exact ⟨k + 1, by omega, by go_num, below_drewN HBF.out nq⟩
        case measure => simp [intOf]; omega
    · have g : ¬ ((k : Int) < (outs.length : Int)) := by omega
      go_wp2_with fail
      go_ret
      exact ⟨rfl, HBW.out⟩
end Go.Proofs.YtapgjjfndbfnpaaDoor
namespace Go.Proofs.YtapgjjfndbfnpaaDoor
open Go.RowKit
set_option linter.unusedSimpArgs false
set_option linter.unusedVariables false

theorem row_form4 {w : World} {base n sz : Nat} {e : TypeId} {v : Value} {xs : List Value} (h : w.ownsRow base e sz v n xs) : ∃ a cap, v = .slice a n cap := by
  rcases h.2 with ⟨e1, e2⟩ | ⟨g, cap, cur, e1, _⟩
  · exact ⟨none, 0, by rw [e1, e2]⟩
  · exact ⟨_, cap, e1⟩
theorem vsize4 : (Tryd.prog.info? 82).map (·.size) = some 4 := by kernel_rfl
set_option maxRecDepth 100000 in
set_option maxHeartbeats 1600000 in
theorem view_any (X : Nat → Prop) (lo c : Nat) (R : ClR) (w : World) (h : ClM X lo w c R) :
    Calls Tryd.prog 27 #[.pointer (some ⟨c, 0, none⟩)] w fun e w' => ∃ a b d, e = .returned (.agg #[.int .i64 R.s.v.epoch, a, b, d]) ∧ Below w.heap.size w w' := by
  obtain ⟨a1, k1, hv1⟩ := h.cv.1.form
  obtain ⟨a2, k2, hv2⟩ := h.sv.1.form
  obtain ⟨a3, k3, hv3⟩ := h.bv.1.form
  obtain ⟨s1, s2, s3⟩ := h.sm
  have MKS := Lib.hid (fun (X' : World) (hb : Below w.heap.size w X') => (show X'.cell? ⟨c, 6, none⟩ = some (.int .i64 R.s.v.epoch) ∧ X'.cell? ⟨c, 7, none⟩ = some (.slice a1 R.s.v.chain.length k1) ∧ X'.cell? ⟨c, 8, none⟩ = some (.slice a2 R.s.v.since.length k2) ∧ X'.cell? ⟨c, 9, none⟩ = some (.slice a3 R.s.v.boot.length k3) ∧ Below w.heap.size w X' from ⟨(h.keep hb).c6, by rw [← hv1]; exact (h.keep hb).c7, by rw [← hv2]; exact (h.keep hb).c8, by rw [← hv3]; exact (h.keep hb).c9, hb⟩))
  have C1 := Lib.hid (fun (X' : World) (hb : Below w.heap.size w X') => Vw.clone_any w.heap.size (.slice a1 R.s.v.chain.length k1) R.s.v.chain X' (by rw [← hv1]; exact h.cv.1.keep hb (Nat.le_refl _)) hb.size (by omega))
  have C2 := Lib.hid (fun (X' : World) (hb : Below w.heap.size w X') => Vw.clone_any w.heap.size (.slice a2 R.s.v.since.length k2) R.s.v.since X' (by rw [← hv2]; exact h.sv.1.keep hb (Nat.le_refl _)) hb.size (by omega))
  have C3 := Lib.hid (fun (X' : World) (hb : Below w.heap.size w X') => Vw.clone_any w.heap.size (.slice a3 R.s.v.boot.length k3) R.s.v.boot X' (by rw [← hv3]; exact h.bv.1.keep hb (Nat.le_refl _)) hb.size (by omega))
  have hA := (Below.refl w.heap.size w).alloc (Nat.le_refl _) (.cells #[.int .i64 0, .slice none 0 0, .slice none 0 0, .slice none 0 0] 82)
  have HB0 := Lib.hid hA.drew
  have G0 := Lib.hid (show (w.alloc (.cells #[.int .i64 0, .slice none 0 0, .slice none 0 0, .slice none 0 0] 82)).drew.heap[w.heap.size]? = some (.cells #[.int .i64 0, .slice none 0 0, .slice none 0 0, .slice none 0 0] 82) from heap_alloc_new w (.cells #[.int .i64 0, .slice none 0 0, .slice none 0 0, .slice none 0 0] 82))
  clear h hv1 hv2 hv3 hA s1 s2 s3
  go_enter Tryd.func27, Tryd.ntmps27
  go_wp2_with fail
  refine region_begin (S := fun X' => X'.cell? ⟨c, 6, none⟩ = some (.int .i64 R.s.v.epoch) ∧ X'.cell? ⟨c, 7, none⟩ = some (.slice a1 R.s.v.chain.length k1) ∧ X'.cell? ⟨c, 8, none⟩ = some (.slice a2 R.s.v.since.length k2) ∧ X'.cell? ⟨c, 9, none⟩ = some (.slice a3 R.s.v.boot.length k3) ∧ Below w.heap.size w X') 25 rfl (by kernel_rfl) (MKS.out _ HB0.out) (fun hH0 => ?_)
  refine wpAnyH_take (i := 0) (oi := ?oa0) (v := ?va0) ?hia0 (by kernel_rfl) (by kernel_rfl) (by kernel_rfl) ?hQa0 ?hya0 hH0 ?_
  case hia0 => simp only [List.getElem?_toArray, List.getElem?_cons_zero]; rfl
  case hQa0 => exact fun _ _ _ h => h
  case hya0 => refine Or.inl ⟨by rfl, ?_⟩; intro W hSw; (try dsimp only at hSw); go_simp; try with_reducible rfl
  simp only [Act.put, List.setIfInBounds_toArray, List.set_cons_zero, List.set_cons_succ]
  refine wpAnyH_take (i := 1) (oi := ?oa1) (v := ?va1) ?hia1 (by kernel_rfl) (by kernel_rfl) (by kernel_rfl) ?hQa1 ?hya1 hH0 ?_
  case hia1 => simp only [List.getElem?_toArray, List.getElem?_cons_zero, List.getElem?_cons_succ]; rfl
  case hQa1 => exact fun _ _ _ h => h
  case hya1 => refine Or.inl ⟨by rfl, ?_⟩; intro W hSw; (try dsimp only at hSw); go_simp; try with_reducible rfl
  simp only [Act.put, List.setIfInBounds_toArray, List.set_cons_zero, List.set_cons_succ]
  refine wpAnyH_take (i := 2) (oi := ?oa2) (v := ?va2) ?hia2 (by kernel_rfl) (by kernel_rfl) (by kernel_rfl) ?hQa2 ?hya2 hH0 ?_
  case hia2 => simp only [List.getElem?_toArray, List.getElem?_cons_zero, List.getElem?_cons_succ]; rfl
  case hQa2 => exact fun _ _ _ h => h
  case hya2 => refine Or.inl ⟨by rfl, ?_⟩; intro W hSw; (try dsimp only at hSw); go_simp; try with_reducible rfl
  simp only [Act.put, List.setIfInBounds_toArray, List.set_cons_zero, List.set_cons_succ]
  refine wpAnyH_take (i := 3) (oi := ?oa3) (v := ?va3) ?hia3 (by kernel_rfl) (by kernel_rfl) (by kernel_rfl) ?hQa3 ?hya3 hH0 ?_
  case hia3 => simp only [List.getElem?_toArray, List.getElem?_cons_zero, List.getElem?_cons_succ]; rfl
  case hQa3 => exact fun _ _ _ h => h
  case hya3 => refine Or.inl ⟨by rfl, ?_⟩; intro W hSw; (try dsimp only at hSw); go_simp; try with_reducible rfl
  simp only [Act.put, List.setIfInBounds_toArray, List.set_cons_zero, List.set_cons_succ]
  refine wpAnyH_take (i := 4) (oi := ?oa4) (v := ?va4) ?hia4 (by kernel_rfl) (by kernel_rfl) (by kernel_rfl) ?hQa4 ?hya4 hH0 ?_
  case hia4 => simp only [List.getElem?_toArray, List.getElem?_cons_zero, List.getElem?_cons_succ]; rfl
  case hQa4 => exact fun _ _ _ h => h
  case hya4 => refine Or.inl ⟨by rfl, ?_⟩; intro W hSw; (try dsimp only at hSw); go_simp; try with_reducible rfl
  simp only [Act.put, List.setIfInBounds_toArray, List.set_cons_zero, List.set_cons_succ]
  refine wpAnyH_take (i := 5) (oi := ?oa5) (v := ?va5) ?hia5 (by kernel_rfl) (by kernel_rfl) (by kernel_rfl) ?hQa5 ?hya5 hH0 ?_
  case hia5 => simp only [List.getElem?_toArray, List.getElem?_cons_zero, List.getElem?_cons_succ]; rfl
  case hQa5 => exact fun _ _ _ h => h
  case hya5 => refine Or.inl ⟨by rfl, ?_⟩; intro W hSw; (try dsimp only at hSw); go_simp; try with_reducible rfl
  simp only [Act.put, List.setIfInBounds_toArray, List.set_cons_zero, List.set_cons_succ]
  refine wpAnyH_take (i := 6) (oi := ?oa6) (v := ?va6) ?hia6 (by kernel_rfl) (by kernel_rfl) (by kernel_rfl) ?hQa6 ?hya6 hH0 ?_
  case hia6 => simp only [List.getElem?_toArray, List.getElem?_cons_zero, List.getElem?_cons_succ]; rfl
  case hQa6 => exact fun _ _ _ h => h
  case hya6 => refine Or.inl ⟨by rfl, ?_⟩; intro W hSw; (try dsimp only at hSw); go_simp; try with_reducible rfl
  simp only [Act.put, List.setIfInBounds_toArray, List.set_cons_zero, List.set_cons_succ]
  refine wpAnyH_take (i := 7) (oi := ?oa7) (v := ?va7) ?hia7 (by kernel_rfl) (by kernel_rfl) (by kernel_rfl) ?hQa7 ?hya7 hH0 ?_
  case hia7 => simp only [List.getElem?_toArray, List.getElem?_cons_zero, List.getElem?_cons_succ]; rfl
  case hQa7 => exact fun _ _ _ h => h
  case hya7 => refine Or.inl ⟨by rfl, ?_⟩; intro W hSw; (try dsimp only at hSw); go_simp; try with_reducible rfl
  simp only [Act.put, List.setIfInBounds_toArray, List.set_cons_zero, List.set_cons_succ]
  refine wpAnyH_take (i := 8) (oi := ?oa8) (v := ?va8) ?hia8 (by kernel_rfl) (by kernel_rfl) (by kernel_rfl) ?hQa8 ?hya8 hH0 ?_
  case hia8 => simp only [List.getElem?_toArray, List.getElem?_cons_zero, List.getElem?_cons_succ]; rfl
  case hQa8 => exact fun _ _ _ h => h
  case hya8 => refine Or.inl ⟨by rfl, ?_⟩; intro W hSw; (try dsimp only at hSw); go_simp; try with_reducible rfl
  simp only [Act.put, List.setIfInBounds_toArray, List.set_cons_zero, List.set_cons_succ]
  refine wpAnyH_take (i := 9) (oi := ?oa9) (v := ?va9) ?hia9 (by kernel_rfl) (by kernel_rfl) (by kernel_rfl) ?hQa9 ?hya9 hH0 ?_
  case hia9 => simp only [List.getElem?_toArray, List.getElem?_cons_zero, List.getElem?_cons_succ]; rfl
  case hQa9 => exact fun _ _ _ h => h
  case hya9 => refine Or.inl ⟨by rfl, ?_⟩; intro W hSw; (try dsimp only at hSw); go_simp; try with_reducible rfl
  simp only [Act.put, List.setIfInBounds_toArray, List.set_cons_zero, List.set_cons_succ]
  refine wpAnyH_take (i := 11) (oi := ?oa11) (v := ?va11) ?hia11 (by kernel_rfl) (by kernel_rfl) (by kernel_rfl) ?hQa11 ?hya11 hH0 ?_
  case hia11 => simp only [List.getElem?_toArray, List.getElem?_cons_zero, List.getElem?_cons_succ]; rfl
  case hQa11 => exact fun _ _ _ h => h
  case hya11 => refine Or.inl ⟨by rfl, ?_⟩; intro W hSw; (try dsimp only at hSw); go_simp; try with_reducible rfl
  simp only [Act.put, List.setIfInBounds_toArray, List.set_cons_zero, List.set_cons_succ]
  refine wpAnyH_take (i := 12) (oi := ?oa12) (v := ?va12) ?hia12 (by kernel_rfl) (by kernel_rfl) (by kernel_rfl) ?hQa12 ?hya12 hH0 ?_
  case hia12 => simp only [List.getElem?_toArray, List.getElem?_cons_zero, List.getElem?_cons_succ]; rfl
  case hQa12 => exact fun _ _ _ h => h
  case hya12 => refine Or.inl ⟨by rfl, ?_⟩; intro W hSw; (try dsimp only at hSw); go_simp; try with_reducible rfl
  simp only [Act.put, List.setIfInBounds_toArray, List.set_cons_zero, List.set_cons_succ]
  refine wpAnyH_take (i := 13) (oi := ?oa13) (v := ?va13) ?hia13 (by kernel_rfl) (by kernel_rfl) (by kernel_rfl) ?hQa13 ?hya13 hH0 ?_
  case hia13 => simp only [List.getElem?_toArray, List.getElem?_cons_zero, List.getElem?_cons_succ]; rfl
  case hQa13 => exact fun _ _ _ h => h
  case hya13 => refine Or.inl ⟨by rfl, ?_⟩; intro W hSw; (try dsimp only at hSw); go_simp; try with_reducible rfl
  simp only [Act.put, List.setIfInBounds_toArray, List.set_cons_zero, List.set_cons_succ]
  refine wpAnyH_take (i := 14) (oi := ?oa14) (v := ?va14) ?hia14 (by kernel_rfl) (by kernel_rfl) (by kernel_rfl) ?hQa14 ?hya14 hH0 ?_
  case hia14 => simp only [List.getElem?_toArray, List.getElem?_cons_zero, List.getElem?_cons_succ]; rfl
  case hQa14 => exact fun _ _ _ h => h
  case hya14 => refine Or.inl ⟨by rfl, ?_⟩; intro W hSw; (try dsimp only at hSw); go_simp; try with_reducible rfl
  simp only [Act.put, List.setIfInBounds_toArray, List.set_cons_zero, List.set_cons_succ]
  refine wpAnyH_take (i := 15) (oi := ?oa15) (v := ?va15) ?hia15 (by kernel_rfl) (by kernel_rfl) (by kernel_rfl) ?hQa15 ?hya15 hH0 ?_
  case hia15 => simp only [List.getElem?_toArray, List.getElem?_cons_zero, List.getElem?_cons_succ]; rfl
  case hQa15 => exact fun _ _ _ h => h
  case hya15 => refine Or.inl ⟨by rfl, ?_⟩; intro W hSw; (try dsimp only at hSw); go_simp; try with_reducible rfl
  simp only [Act.put, List.setIfInBounds_toArray, List.set_cons_zero, List.set_cons_succ]
  refine wpAnyH_take (i := 17) (oi := ?oa17) (v := ?va17) ?hia17 (by kernel_rfl) (by kernel_rfl) (by kernel_rfl) ?hQa17 ?hya17 hH0 ?_
  case hia17 => simp only [List.getElem?_toArray, List.getElem?_cons_zero, List.getElem?_cons_succ]; rfl
  case hQa17 => exact fun _ _ _ h => h
  case hya17 => refine Or.inl ⟨by rfl, ?_⟩; intro W hSw; (try dsimp only at hSw); go_simp; try with_reducible rfl
  simp only [Act.put, List.setIfInBounds_toArray, List.set_cons_zero, List.set_cons_succ]
  refine wpAnyH_take (i := 18) (oi := ?oa18) (v := ?va18) ?hia18 (by kernel_rfl) (by kernel_rfl) (by kernel_rfl) ?hQa18 ?hya18 hH0 ?_
  case hia18 => simp only [List.getElem?_toArray, List.getElem?_cons_zero, List.getElem?_cons_succ]; rfl
  case hQa18 => exact fun _ _ _ h => h
  case hya18 => refine Or.inl ⟨by rfl, ?_⟩; intro W hSw; (try dsimp only at hSw); go_simp; try with_reducible rfl
  simp only [Act.put, List.setIfInBounds_toArray, List.set_cons_zero, List.set_cons_succ]
  refine wpAnyH_take (i := 19) (oi := ?oa19) (v := ?va19) ?hia19 (by kernel_rfl) (by kernel_rfl) (by kernel_rfl) ?hQa19 ?hya19 hH0 ?_
  case hia19 => simp only [List.getElem?_toArray, List.getElem?_cons_zero, List.getElem?_cons_succ]; rfl
  case hQa19 => exact fun _ _ _ h => h
  case hya19 => refine Or.inl ⟨by rfl, ?_⟩; intro W hSw; (try dsimp only at hSw); go_simp; try with_reducible rfl
  simp only [Act.put, List.setIfInBounds_toArray, List.set_cons_zero, List.set_cons_succ]
  refine wpAnyH_take (i := 20) (oi := ?oa20) (v := ?va20) ?hia20 (by kernel_rfl) (by kernel_rfl) (by kernel_rfl) ?hQa20 ?hya20 hH0 ?_
  case hia20 => simp only [List.getElem?_toArray, List.getElem?_cons_zero, List.getElem?_cons_succ]; rfl
  case hQa20 => exact fun _ _ _ h => h
  case hya20 => refine Or.inl ⟨by rfl, ?_⟩; intro W hSw; (try dsimp only at hSw); go_simp; try with_reducible rfl
  simp only [Act.put, List.setIfInBounds_toArray, List.set_cons_zero, List.set_cons_succ]
  refine wpAnyH_take (i := 21) (oi := ?oa21) (v := ?va21) ?hia21 (by kernel_rfl) (by kernel_rfl) (by kernel_rfl) ?hQa21 ?hya21 hH0 ?_
  case hia21 => simp only [List.getElem?_toArray, List.getElem?_cons_zero, List.getElem?_cons_succ]; rfl
  case hQa21 => exact fun _ _ _ h => h
  case hya21 => refine Or.inl ⟨by rfl, ?_⟩; intro W hSw; (try dsimp only at hSw); go_simp; try with_reducible rfl
  simp only [Act.put, List.setIfInBounds_toArray, List.set_cons_zero, List.set_cons_succ]
  clear hH0
  generalize (w.alloc (.cells #[.int .i64 0, .slice none 0 0, .slice none 0 0, .slice none 0 0] 82)).drew = w0 at *
  refine wpAnyH_ready (rs := [10]) (by kernel_rfl) (by simp) ?_
  refine AllReadyH.cons (o := ?oc10) ?hoc10 (fun K' hK => ?_) AllReadyH.nil
  case hoc10 => simp only [List.getElem?_toArray, List.getElem?_cons_zero, List.getElem?_cons_succ]; rfl
  go_simp
  refine (C1.out _ HB0.out).mono ?_
  rintro e w1 ⟨v1, rfl, how, hb1⟩
  obtain ⟨b1, l1, rfl⟩ := row_form4 how
  clear how
  have HB1 := Lib.hid (HB0.out.trans (hb1.mono HB0.out.size))
  have G1 := Lib.hid ((hb1.block _ (Array.getElem?_eq_some_iff.1 G0.out).1).trans G0.out)
  clear hb1
  refine hK.out _ _ (MKS.out _ HB1.out) (fun hH1 => ?_)
  clear hK K'
  (try simp only [Act.put, List.setIfInBounds_toArray, List.set_cons_zero, List.set_cons_succ])
  clear hH1
  refine wpAnyH_ready (rs := [16]) (by kernel_rfl) (by simp) ?_
  refine AllReadyH.cons (o := ?oc16) ?hoc16 (fun K' hK => ?_) AllReadyH.nil
  case hoc16 => simp only [List.getElem?_toArray, List.getElem?_cons_zero, List.getElem?_cons_succ]; rfl
  go_simp
  refine (C2.out _ HB1.out).mono ?_
  rintro e w2 ⟨v2, rfl, how, hb2⟩
  obtain ⟨b2, l2, rfl⟩ := row_form4 how
  clear how
  have HB2 := Lib.hid (HB1.out.trans (hb2.mono HB1.out.size))
  have G2 := Lib.hid ((hb2.block _ (Array.getElem?_eq_some_iff.1 G1.out).1).trans G1.out)
  clear hb2
  refine hK.out _ _ (MKS.out _ HB2.out) (fun hH2 => ?_)
  clear hK K'
  (try simp only [Act.put, List.setIfInBounds_toArray, List.set_cons_zero, List.set_cons_succ])
  clear hH2
  refine wpAnyH_ready (rs := [22]) (by kernel_rfl) (by simp) ?_
  refine AllReadyH.cons (o := ?oc22) ?hoc22 (fun K' hK => ?_) AllReadyH.nil
  case hoc22 => simp only [List.getElem?_toArray, List.getElem?_cons_zero, List.getElem?_cons_succ]; rfl
  go_simp
  refine (C3.out _ HB2.out).mono ?_
  rintro e w3 ⟨v3, rfl, how, hb3⟩
  obtain ⟨b3, l3, rfl⟩ := row_form4 how
  clear how
  have HB3 := Lib.hid (HB2.out.trans (hb3.mono HB2.out.size))
  have G3 := Lib.hid ((hb3.block _ (Array.getElem?_eq_some_iff.1 G2.out).1).trans G2.out)
  clear hb3
  refine hK.out _ _ (MKS.out _ HB3.out) (fun hH3 => ?_)
  clear hK K'
  (try simp only [Act.put, List.setIfInBounds_toArray, List.set_cons_zero, List.set_cons_succ])
  refine wpAnyH_take (i := 23) (oi := ?ob23) (v := ?vb23) ?hib23 (by kernel_rfl) (by kernel_rfl) (by kernel_rfl) ?hQb23 ?hyb23 hH3 ?_
  case hib23 => simp only [List.getElem?_toArray, List.getElem?_cons_zero, List.getElem?_cons_succ]; rfl
  case hQb23 => exact fun _ _ _ h => h
  case hyb23 => refine Or.inl ⟨by rfl, ?_⟩; intro W hSw; (try dsimp only at hSw); go_simp; try with_reducible rfl
  simp only [Act.put, List.setIfInBounds_toArray, List.set_cons_zero, List.set_cons_succ]
  clear hH3
  have y0 : w3.cell? ⟨w.heap.size, 0, none⟩ = some (.int .i64 0) := by rw [Lib.cell_of_heap G3.out]; rfl
  have y1 : w3.cell? ⟨w.heap.size, 1, none⟩ = some (.slice none 0 0) := by rw [Lib.cell_of_heap G3.out]; rfl
  have y2 : w3.cell? ⟨w.heap.size, 2, none⟩ = some (.slice none 0 0) := by rw [Lib.cell_of_heap G3.out]; rfl
  have y3 : w3.cell? ⟨w.heap.size, 3, none⟩ = some (.slice none 0 0) := by rw [Lib.cell_of_heap G3.out]; rfl
  have f0 : w3.frozen? ⟨w.heap.size, 0, none⟩ = false := Lib.frozen_of_heap G3.out 0
  have f1 : w3.frozen? ⟨w.heap.size, 1, none⟩ = false := Lib.frozen_of_heap G3.out 1
  have f2 : w3.frozen? ⟨w.heap.size, 2, none⟩ = false := Lib.frozen_of_heap G3.out 2
  have f3 : w3.frozen? ⟨w.heap.size, 3, none⟩ = false := Lib.frozen_of_heap G3.out 3
  refine wpAnyH_ready (rs := [24]) (by kernel_rfl) (by simp) ?_
  refine AllReadyH.cons (o := ?os24) ?hos24 (fun K' hK => ?_) AllReadyH.nil
  case hos24 => simp only [List.getElem?_toArray, List.getElem?_cons_zero, List.getElem?_cons_succ]; rfl
  go_simp
  have hbz := (((HB3.out.setCell (p := ⟨w.heap.size, 0, none⟩) (Nat.le_refl _) (.int .i64 R.s.v.epoch)).setCell (p := ⟨w.heap.size, 1, none⟩) (Nat.le_refl _) (.slice b1 R.s.v.chain.length l1)).setCell (p := ⟨w.heap.size, 2, none⟩) (Nat.le_refl _) (.slice b2 R.s.v.since.length l2)).setCell (p := ⟨w.heap.size, 3, none⟩) (Nat.le_refl _) (.slice b3 R.s.v.boot.length l3)
  have HBZ := Lib.hid hbz
  clear hbz
  refine hK.out _ _ (MKS.out _ HBZ.out) (fun hH4 => ?_)
  clear hK K'
  (try simp only [Act.put, List.setIfInBounds_toArray, List.set_cons_zero, List.set_cons_succ])
  clear hH4
  refine wpAnyH_done (by kernel_rfl) ?_ _
  go_wp2_with fail
  refine bodyPost_ret (Vw.ret_row4 rfl _ _ _ _ _ _ _ _ _ _ _ _ _ (by rfl) G3.out Tryd.underlying82 rfl vsize4) rfl ?_
  exact ⟨_, _, _, rfl, HBZ.out⟩
end Go.Proofs.YtapgjjfndbfnpaaDoor
namespace Go.Proofs.YtapgjjfndbfnpaaDoor
open Go.RowKit
set_option linter.unusedVariables false
set_option linter.unusedSimpArgs false

/-! ### what is told -/
structure InvP (s : ClW) : Prop where
  kd : ∀ o ∈ s.ops, o.kind = 1 ∨ o.kind = 2
  pd : s.pending = true → s.ops ≠ []
theorem lastS_mem {s : ClW} (hn : s.ops ≠ []) : lastS s ∈ s.ops := by
  unfold lastS
  rw [List.getLast?_eq_some_getLast hn]
  exact List.getLast_mem hn
theorem good_where (o : OpW) (s : ClW) : GoodO o (whereW s) := rfl
theorem good_ask (s : ClW) (hk : (lastS s).kind = 1 ∨ (lastS s).kind = 2) : GoodO (lastS s) (askW s) := by
  unfold askW
  by_cases hr : Vw.rightB s.v = false
  · rw [if_pos hr]
    rfl
  · rw [if_neg hr]
    have hR := (Vw.rightB_iff s.v).1 (by cases e : Vw.rightB s.v; exact absurd e hr; rfl)
    have hn := hR.n1
    by_cases h1 : (lastS s).kind = 1
    · rw [if_pos h1]
      refine ⟨?_, h1, rfl, rfl, rfl, rfl⟩
      have := (hR.ok 0 (by omega)).1
      show s.v.chain.getD 0 0 ≠ 0
      omega
    · rw [if_neg h1]
      refine ⟨?_, by rcases hk with e | e; exact absurd e h1; exact e, rfl, rfl⟩
      have := (hR.ok (pickT s.which s.v.chain.length) (Nat.mod_lt _ (by omega))).1
      show s.v.chain.getD (pickT s.which s.v.chain.length) 0 ≠ 0
      omega
theorem inv_kind {s : ClW} (h : InvP s) (hn : s.ops ≠ []) : (lastS s).kind = 1 ∨ (lastS s).kind = 2 := h.kd _ (lastS_mem hn)
/-- What a step leaves: its state, what it tells. -/
def StepP (s' : ClW) (l : List OutW) : Prop := InvP s' ∧ (∀ x ∈ l, GoodO (lastS s') x) ∧ l.length ≤ 2
theorem stepP_nil {s : ClW} (h : InvP s) : StepP s [] := ⟨h, fun x hx => absurd hx (by simp), by simp⟩
theorem stepP_begin {s : ClW} (h : InvP s) (o : OpW) (now : Int) (hk : o.kind = 1 ∨ o.kind = 2) : StepP (beginS s o now) [askW (beginS s o now)] := by
  have hl : lastS (beginS s o now) = { o with id := (s.ops.length : Int) + 1, start := now, end_ := -1 } := by unfold lastS beginS; simp
  refine ⟨⟨fun x hx => ?_, fun _ => by simp [beginS]⟩, fun x hx => ?_, by simp⟩
  · rcases List.mem_append.1 (show x ∈ s.ops ++ [{ o with id := (s.ops.length : Int) + 1, start := now, end_ := -1 }] from hx) with hx | hx
    · exact h.kd x hx
    · obtain rfl := List.mem_singleton.1 hx
      exact hk
  · obtain rfl := List.mem_singleton.1 hx
    exact good_ask _ (by rw [hl]; exact hk)
theorem stepP_append {s s' : ClW} (h : InvP s) {stream : ByteArray} {expect : Int} {events : List EV} {now : Int} {l : List OutW} {err : Nat} (hs : appendS s stream expect events now = (s', l, err)) : StepP s' l := by
  obtain rfl : _ = s' := congrArg (·.1) hs
  obtain rfl : _ = l := congrArg (·.2.1) hs
  unfold appendS
  split
  · exact stepP_nil h
  · split
    · exact stepP_nil h
    · exact stepP_begin h _ _ (.inl rfl)
theorem stepP_read {s s' : ClW} (h : InvP s) {stream : ByteArray} {from_ which now : Int} {l : List OutW} {err : Nat} (hs : readS s stream from_ which now = (s', l, err)) : StepP s' l := by
  obtain rfl : _ = s' := congrArg (·.1) hs
  obtain rfl : _ = l := congrArg (·.2.1) hs
  unfold readS
  split
  · exact stepP_nil h
  · split
    · exact stepP_nil h
    · exact stepP_begin (s := { s with which := which }) ⟨h.kd, h.pd⟩ _ _ (.inr rfl)
theorem stepP_see {s s' : ClW} (h : InvP s) {V : Vw.VW} {now : Int} {l : List OutW} (hs : seeS s V now = (s', l)) : StepP s' l := by
  unfold seeS at hs
  by_cases h1 : Vw.rightB V = false ∨ V.epoch ≤ s.v.epoch
  · rw [if_pos h1] at hs
    obtain ⟨rfl, rfl⟩ := Prod.mk.inj hs
    exact stepP_nil h
  · rw [if_neg h1] at hs
    by_cases hp : s.pending = false
    · rw [if_pos hp] at hs
      obtain ⟨rfl, rfl⟩ := Prod.mk.inj hs
      exact stepP_nil ⟨h.kd, h.pd⟩
    · rw [if_neg hp] at hs
      obtain ⟨rfl, rfl⟩ := Prod.mk.inj hs
      have hp2 : s.pending = true := by cases e : s.pending; exact absurd e hp; rfl
      have hk := inv_kind h (h.pd hp2)
      exact ⟨⟨h.kd, h.pd⟩, fun x hx => by
        obtain rfl := List.mem_singleton.1 hx
        exact good_ask { s with v := V } hk, by simp⟩
theorem stepP_answer {s s' : ClW} (h : InvP s) {kind id err now : Int} {f : OpW → OpW} (hf : ∀ o, (f o).kind = o.kind) {l : List OutW} (hs : answerS s kind id err now f = (s', l)) : StepP s' l := by
  unfold answerS at hs
  by_cases h1 : s.pending = false ∨ (lastS s).kind ≠ kind ∨ (lastS s).id ≠ id
  · rw [if_pos h1] at hs
    obtain ⟨rfl, rfl⟩ := Prod.mk.inj hs
    exact stepP_nil h
  · rw [if_neg h1] at hs
    by_cases he : err ≠ 0
    · rw [if_pos he] at hs
      obtain ⟨rfl, rfl⟩ := Prod.mk.inj hs
      exact ⟨⟨h.kd, h.pd⟩, fun x hx => by obtain rfl := List.mem_singleton.1 hx; exact good_where _ _, by simp⟩
    · rw [if_neg he] at hs
      obtain ⟨rfl, rfl⟩ := Prod.mk.inj hs
      have hp : s.pending = true := by cases e : s.pending; exact absurd (.inl e) h1; rfl
      have hk := inv_kind h (h.pd hp)
      refine stepP_nil ⟨fun o ho => ?_, fun e => by cases e⟩
      rcases List.mem_append.1 (show o ∈ s.ops.dropLast ++ [f { lastS s with end_ := now }] from ho) with ho | ho
      · exact h.kd o ((List.dropLast_sublist _).subset ho)
      · obtain rfl := List.mem_singleton.1 ho
        rw [hf]
        exact hk
theorem stepP_tick {s s' : ClW} (h : InvP s) {now : Int} {l : List OutW} (hs : tickS s now = (s', l)) : StepP s' l := by
  unfold tickS at hs
  by_cases h1 : s.pending = false ∨ now - s.asked < s.wait
  · rw [if_pos h1] at hs
    obtain ⟨rfl, rfl⟩ := Prod.mk.inj hs
    exact stepP_nil h
  · have hp : s.pending = true := by cases e : s.pending; exact absurd (.inl e) h1; rfl
    have hk := inv_kind h (h.pd hp)
    rw [if_neg h1] at hs
    by_cases hr : Vw.rightB s.v = false
    · rw [if_pos hr] at hs
      obtain ⟨rfl, rfl⟩ := Prod.mk.inj hs
      exact ⟨⟨h.kd, h.pd⟩, fun x hx => by obtain rfl := List.mem_singleton.1 hx; exact good_ask s hk, by simp⟩
    · rw [if_neg hr] at hs
      obtain ⟨rfl, rfl⟩ := Prod.mk.inj hs
      refine ⟨⟨h.kd, h.pd⟩, fun x hx => ?_, by simp⟩
      rcases List.mem_cons.1 hx with rfl | hx
      · exact good_where _ _
      · obtain rfl := List.mem_singleton.1 hx
        exact good_ask s hk

/-- What a step leaves of the rest. -/
def NextP (s s' : ClW) (now : Int) : Prop := s'.wait = s.wait ∧ (s'.asked = s.asked ∨ s'.asked = now) ∧ s'.ops.length ≤ s.ops.length + 1
theorem next_append {s s' : ClW} {stream : ByteArray} {expect : Int} {events : List EV} {now : Int} {l : List OutW} {err : Nat} (hs : appendS s stream expect events now = (s', l, err)) : NextP s s' now := by
  obtain rfl : _ = s' := congrArg (·.1) hs
  unfold appendS
  split
  · exact ⟨rfl, .inl rfl, by simp⟩
  · split
    · exact ⟨rfl, .inl rfl, by simp⟩
    · exact ⟨rfl, .inr rfl, by simp [beginS]⟩
theorem next_read {s s' : ClW} {stream : ByteArray} {from_ which now : Int} {l : List OutW} {err : Nat} (hs : readS s stream from_ which now = (s', l, err)) : NextP s s' now := by
  obtain rfl : _ = s' := congrArg (·.1) hs
  unfold readS
  split
  · exact ⟨rfl, .inl rfl, by simp⟩
  · split
    · exact ⟨rfl, .inl rfl, by simp⟩
    · exact ⟨rfl, .inr rfl, by simp [beginS]⟩
theorem next_see {s s' : ClW} {V : Vw.VW} {now : Int} {l : List OutW} (hs : seeS s V now = (s', l)) : NextP s s' now := by
  obtain rfl : _ = s' := congrArg (·.1) hs
  unfold seeS
  split
  · exact ⟨rfl, .inl rfl, by simp⟩
  · split
    · exact ⟨rfl, .inl rfl, by simp⟩
    · exact ⟨rfl, .inr rfl, by simp⟩
theorem next_answer {s s' : ClW} {kind id err now : Int} {f : OpW → OpW} {l : List OutW} (hn : s.pending = true → s.ops ≠ []) (hs : answerS s kind id err now f = (s', l)) : NextP s s' now := by
  unfold answerS at hs
  by_cases h1 : s.pending = false ∨ (lastS s).kind ≠ kind ∨ (lastS s).id ≠ id
  · rw [if_pos h1] at hs
    obtain ⟨rfl, rfl⟩ := Prod.mk.inj hs
    exact ⟨rfl, .inl rfl, by simp⟩
  · rw [if_neg h1] at hs
    by_cases he : err ≠ 0
    · rw [if_pos he] at hs
      obtain ⟨rfl, rfl⟩ := Prod.mk.inj hs
      exact ⟨rfl, .inl rfl, by simp⟩
    · rw [if_neg he] at hs
      obtain ⟨rfl, rfl⟩ := Prod.mk.inj hs
      refine ⟨rfl, .inl rfl, ?_⟩
      show (s.ops.dropLast ++ [_]).length ≤ _
      simp
theorem next_tick {s s' : ClW} {now : Int} {l : List OutW} (hs : tickS s now = (s', l)) : NextP s s' now := by
  obtain rfl : _ = s' := congrArg (·.1) hs
  unfold tickS
  split
  · exact ⟨rfl, .inl rfl, by simp⟩
  · split
    · exact ⟨rfl, .inr rfl, by simp⟩
    · exact ⟨rfl, .inr rfl, by simp⟩
/-- What holds between two acts. -/
structure InvT (wait now : Int) (n : Nat) (s : ClW) : Prop where
  p : InvP s
  wt : s.wait = wait
  a0 : 0 ≤ s.asked
  a1 : s.asked ≤ now
  ln : s.ops.length ≤ n
theorem InvT.next {wait now now' : Int} {n : Nat} {s s' : ClW} {l : List OutW} (h : InvT wait now n s) (hp : StepP s' l) (hx : NextP s s' now') (h0 : 0 ≤ now') (hn : now ≤ now') : InvT wait now' (n + 1) s' := by
  obtain ⟨e1, e2, e3⟩ := hx
  refine ⟨hp.1, e1.trans h.wt, ?_, ?_, by have := h.ln; omega⟩
  · have := h.a0; rcases e2 with e | e <;> rw [e] <;> omega
  · have := h.a1; rcases e2 with e | e <;> rw [e] <;> omega
theorem InvT.later {wait now now' : Int} {n : Nat} {s : ClW} (h : InvT wait now n s) (hn : now ≤ now') : InvT wait now' n s := ⟨h.p, h.wt, h.a0, by have := h.a1; omega, h.ln⟩

/-! ### both in one memory -/
theorem ClM.other {X X' T : Nat → Prop} {lo c : Nat} {w w' : World} {R : ClR} (h : ClM X lo w c R) (hk : Kept T w w') (hT : ∀ k, T k → X k) (hX : ∀ k, k < w.heap.size → X' k → X k) (hx : ∀ k, X' k → k < w'.heap.size) : ClM X' lo w' c R := by
  have hT' : ∀ k, k < w.heap.size → T k → R.mut c k ∨ X k := fun k _ ht => .inr (hT k ht)
  have hU : ∀ k, k < w.heap.size → R.mut c k ∨ X' k → R.mut c k ∨ X k := fun k hl h => h.imp id (hX k hl)
  refine ⟨h.hlo, (hk.block c h.clt (fun ht => h.xne c (hT c ht) (.inl rfl))).trans h.blk, ?_, h.ops, h.ne, fun r hr => (h.bev r hr).keep hk hT' hU, fun r hr => (h.evv r hr).keep hk hT' hU, h.ep, h.sm, h.wh, h.cv.keep hk hT' hU, h.sv.keep hk hT' hU, h.bv.keep hk hT' hU, hx, fun k hx' hm => ?_⟩
  · refine ⟨h.own.1, ?_⟩
    rcases h.own.2 with e | ⟨g, cap, cur, e, hb, hg, r⟩
    · exact .inl e
    · refine .inr ⟨g, cap, cur, e, hb, (hk.block g (Array.getElem?_eq_some_iff.1 hg).1 (fun ht => h.xne g (hT g ht) (.inr (by rw [e]; rfl)))).trans hg, r⟩
  · exact h.xne k (hX k (h.mutlo k hm).2 hx') hm
theorem Rf.ClM.other {X X' T : Nat → Prop} {lo c : Nat} {w w' : World} {R : ClR} (h : Rf.ClM X lo w c R) (hk : Kept T w w') (hT : ∀ k, T k → X k) (hX : ∀ k, k < w.heap.size → X' k → X k) (hx : ∀ k, X' k → k < w'.heap.size) : Rf.ClM X' lo w' c R := by
  have hT' : ∀ k, k < w.heap.size → T k → R.mut c k ∨ X k := fun k _ ht => .inr (hT k ht)
  have hU : ∀ k, k < w.heap.size → R.mut c k ∨ X' k → R.mut c k ∨ X k := fun k hl h => h.imp id (hX k hl)
  refine ⟨h.hlo, (hk.block c h.clt (fun ht => h.xne c (hT c ht) (.inl rfl))).trans h.blk, ?_, h.ops, h.ne, fun r hr => (h.bev r hr).keep hk hT' hU, fun r hr => (h.evv r hr).keep hk hT' hU, h.ep, h.sm, h.wh, h.cv.keep hk hT' hU, h.sv.keep hk hT' hU, h.bv.keep hk hT' hU, hx, fun k hx' hm => ?_⟩
  · refine ⟨h.own.1, ?_⟩
    rcases h.own.2 with e | ⟨g, cap, cur, e, hb, hg, r⟩
    · exact .inl e
    · refine .inr ⟨g, cap, cur, e, hb, (hk.block g (Array.getElem?_eq_some_iff.1 hg).1 (fun ht => h.xne g (hT g ht) (.inr (by rw [e]; rfl)))).trans hg, r⟩
  · exact h.xne k (hX k (h.mutlo k hm).2 hx') hm
structure BothM (lo c m : Nat) (w : World) (R Q : ClR) : Prop where
  same : Q.s = R.s
  hc : ClM (fun k => Q.mut m k) lo w c R
  hm : Rf.ClM (fun k => R.mut c k) lo w m Q
variable {lo c m : Nat} {w w1 w2 : World} {R Q : ClR}
theorem BothM.below (h : BothM lo c m w R Q) (hb : Below w.heap.size w w1) : BothM lo c m w1 R Q := ⟨h.same, h.hc.keep hb, h.hm.keep hb⟩
/-- The client has done something. -/
structure Half (lo c m : Nat) (w0 w : World) (R Q : ClR) (s' : ClW) (x : Value) (outs : List OutR) : Prop where
  st : R.s = s'
  hc : ClM (fun k => Q.mut m k) lo w c R
  hm : Rf.ClM (fun k => R.mut c k) lo w m Q
  at_ : OutsAt lo w x outs
  ok : ∀ o ∈ outs, o.ok (fun k => R.mut c k ∨ Q.mut m k) w
  below : Below lo w0 w
theorem half_of {s' : ClW} {l : List OutW} {x : Value} (h : BothM lo c m w R Q) (hd : Does (fun k => Q.mut m k) lo c R w s' l x w1) : ∃ R1 outs, Half lo c m w w1 R1 Q s' x outs ∧ outs.map OutR.plain = l ∧ Step c R R1 w w1 := by
  obtain ⟨R1, outs, h1, h2, h3, h4, h5, h6⟩ := hd
  have hl : lo ≤ w.heap.size := by have := h.hc.hlo; have := h.hc.clt; omega
  exact ⟨R1, outs, ⟨h1, h2, h.hm.other h3.kept (fun _ h => h) (fun k hk hm => h3.grow k hk hm) (fun k hk => (h2.mutlo k hk).2), outs_less hl h4, h6, h3.below h.hc⟩, h5, h3⟩
theorem outsAt_kept {T : Nat → Prop} {B : Nat} {v : Value} {outs : List OutR} {X : Nat → Prop} (h : OutsAt B w v outs) (hm : Rf.ClM X lo w m Q) (hk : Kept (Q.mut m) w w1) : OutsAt B w1 v outs := by
  rcases h with h | ⟨b, h1, h2, h3⟩
  · exact .inl h
  · refine .inr ⟨b, h1, h2, (hk.block b (Array.getElem?_eq_some_iff.1 h3).1 (fun hu => ?_)).trans h3⟩
    rcases hu with e | e
    · subst e
      have := hm.blk
      rw [h3] at this
      injection this with this
      injection this with _ this
      exact absurd this (by decide)
    · rcases hm.own.2 with ⟨e2, _⟩ | ⟨g, cap, cur, e2, _, hg, _⟩
      · rw [e2] at e; exact absurd e (by simp [Value.ownBlock])
      · rw [e2] at e
        have e3 : g = b := Option.some.inj e
        subst e3
        rw [h3] at hg
        injection hg with this
        injection this with _ this
        exact absurd this (by decide)
/-- What both tell. -/
structure Told (lo : Nat) (w : World) (x y : Value) (s : ClW) (outs : List OutR) : Prop where
  at_ : OutsAt lo w x outs
  routs : Rf.ROutsAt lo w y (Rf.outP (outs.map OutR.plain))
  ev : ∀ o ∈ outs, ∀ id b bev, o.m = .app id b bev → IsEvents w.heap.size w bev b.events
  good : ∀ o ∈ outs, GoodO (lastS s) o.plain
  len : outs.length ≤ 2
theorem both_of {s' : ClW} {l : List OutW} {x y : Value} {outs : List OutR} {w0 : World} (h : Half lo c m w0 w R Q s' x outs) (hpl : outs.map OutR.plain = l) (hp : StepP s' l) (hd : Rf.RDoes (fun k => R.mut c k) lo m Q w s' l y w1) :
    ∃ Q1, BothM lo c m w1 R Q1 ∧ R.s = s' ∧ Told lo w1 x y s' outs ∧ Below lo w0 w1 := by
  obtain ⟨Q1, h1, h2, h3, h4⟩ := hd
  have hl : lo ≤ w.heap.size := by have := h.hc.hlo; have := h.hc.clt; omega
  have hc1 : ClM (fun k => Q1.mut m k) lo w1 c R := h.hc.other h3.kept (fun _ h => h) (fun k hk hm => h3.grow k hk hm) (fun k hk => (h2.mutlo k hk).2)
  refine ⟨Q1, ⟨h1.trans h.st.symm, hc1, h2⟩, h.st, ⟨outsAt_kept (T := fun _ => False) h.at_ h.hm h3.kept, by rw [hpl]; exact Rf.routs_less hl h4, fun o ho id b bev e => ?_, fun o ho => ?_, ?_⟩, h.below.trans (Rf.step_under h3 h.hm)⟩
  · have h5 := h.ok o ho
    unfold OutR.ok at h5
    rw [e] at h5
    exact (EvA.keep (U := fun _ => False) h5 h3.kept (fun k hk ht => .inr ht) (fun _ _ h => h.elim)).1
  · exact hp.2.1 _ (by rw [← hpl]; exact List.mem_map_of_mem ho)
  · have := hp.2.2
    rw [← hpl, List.length_map] at this
    exact this
theorem told_nil {s : ClW} : Told lo w (.slice none 0 0) (.slice none 0 0) s [] := ⟨.inl ⟨rfl, rfl⟩, .inl ⟨rfl, rfl⟩, fun o ho => absurd ho (by simp), fun o ho => absurd ho (by simp), by simp⟩
/-- An argument's events lie below. -/
theorem eva_arg {S : Nat → Prop} {v : Value} {l : List EV} {B : Nat} (h : IsEvents B w v l) (hB : B ≤ w.heap.size) (hS : ∀ k, S k → B ≤ k) : EvA S w v l :=
  ⟨h.up hB, fun hp k hk hu => by
    obtain ⟨a, cap, rfl, _, _, _, h5⟩ := h
    obtain ⟨b, off, rfl, hlt, _⟩ := h5 hp
    have e : b = k := Option.some.inj hk
    have := hS k hu
    omega⟩
theorem ina_arg {S : Nat → Prop} {v : Value} {l : List Int} {B : Nat} (h : Vw.IsInts B w v l) (hB : B ≤ w.heap.size) (hS : ∀ k, S k → B ≤ k) : InA S w v l :=
  ⟨h.up hB, fun hp k hk hu => by
    obtain ⟨a, cap, rfl, _, _, _, _, h5⟩ := h
    obtain ⟨b, off, rfl, hlt, _⟩ := h5 hp
    have e : b = k := Option.some.inj hk
    have := hS k hu
    omega⟩
theorem BothM.lo_c (h : BothM lo c m w R Q) : ∀ k, R.mut c k ∨ Q.mut m k → lo ≤ k := fun k hk => by
  rcases hk with hk | hk
  · exact (h.hc.mutlo k hk).1
  · exact (h.hm.mutlo k hk).1
end Go.Proofs.YtapgjjfndbfnpaaDoor
namespace Go.Proofs.YtapgjjfndbfnpaaDoor
open Go.RowKit
set_option linter.unusedVariables false

theorem Rf.answer1_any (X : Nat → Prop) (lo c : Nat) (R : ClR) (w : World) (h : Rf.ClM X lo w c R) (hm : R.rs.length ≤ 100000) (id err : Int) (out : OutC) (version : Int) (ea : Option Addr) (ek : Nat) (events : List EV) (hev : EvA (fun k => R.mut c k ∨ X k) w (.slice ea events.length ek) events) (now : Int) (hn : R.s.pending = true → R.s.ops ≠ [])
    (s' : ClW) (l : List OutW) (hs : answerS R.s 1 id err now (fun o => { o with out := out }) = (s', l)) :
    Calls Tryd.prog 23 #[.pointer (some ⟨c, 0, none⟩), .int .i64 1, .int .i64 id, .int .i64 err, .agg #[.int .i64 out.code, .int .i64 out.pos, .int .i64 out.first, .int .i64 out.version], .int .i64 version, .slice ea events.length ek, .int .i64 now] w fun e w' => ∃ v, e = .returned v ∧ Rf.RDoes X lo c R w s' l v w' := by
  unfold answerS at hs
  by_cases h1 : R.s.pending = false ∨ (lastS R.s).kind ≠ 1 ∨ (lastS R.s).id ≠ id
  · rw [if_pos h1] at hs
    obtain ⟨rfl, rfl⟩ := Prod.mk.inj hs
    exact Rf.ans_none1 X lo c R w h hm id err out version ea ek events hev now hn h1
  · rw [if_neg h1] at hs
    have hp : R.s.pending = true := by cases e : R.s.pending; exact absurd (.inl e) h1; rfl
    obtain ⟨l1, r, hlr⟩ := h.split (hn hp)
    have hls := h.lastS hlr
    have hk : r.o.kind = 1 := by rw [← hls]; exact Classical.byContradiction fun e => h1 (.inr (.inl e))
    have hi : r.o.id = id := by rw [← hls]; exact Classical.byContradiction fun e => h1 (.inr (.inr e))
    by_cases he : err ≠ 0
    · rw [if_pos he] at hs
      obtain ⟨rfl, rfl⟩ := Prod.mk.inj hs
      exact Rf.ans_err1 X lo c R w h hm id err out version ea ek events hev now hp l1 r hlr hk hi he
    · rw [if_neg he] at hs
      obtain ⟨rfl, rfl⟩ := Prod.mk.inj hs
      exact Rf.ans_ok1 X lo c R w h hm id err out version ea ek events hev now hp l1 r hlr hk hi (Classical.not_not.1 he)
theorem Rf.answer2_any (X : Nat → Prop) (lo c : Nat) (R : ClR) (w : World) (h : Rf.ClM X lo w c R) (hm : R.rs.length ≤ 100000) (id err : Int) (out : OutC) (version : Int) (ea : Option Addr) (ek : Nat) (events : List EV) (hev : EvA (fun k => R.mut c k ∨ X k) w (.slice ea events.length ek) events) (now : Int) (hn : R.s.pending = true → R.s.ops ≠ [])
    (s' : ClW) (l : List OutW) (hs : answerS R.s 2 id err now (fun o => { o with version := version, events := events }) = (s', l)) :
    Calls Tryd.prog 23 #[.pointer (some ⟨c, 0, none⟩), .int .i64 2, .int .i64 id, .int .i64 err, .agg #[.int .i64 out.code, .int .i64 out.pos, .int .i64 out.first, .int .i64 out.version], .int .i64 version, .slice ea events.length ek, .int .i64 now] w fun e w' => ∃ v, e = .returned v ∧ Rf.RDoes X lo c R w s' l v w' := by
  unfold answerS at hs
  by_cases h1 : R.s.pending = false ∨ (lastS R.s).kind ≠ 2 ∨ (lastS R.s).id ≠ id
  · rw [if_pos h1] at hs
    obtain ⟨rfl, rfl⟩ := Prod.mk.inj hs
    exact Rf.ans_none2 X lo c R w h hm id err out version ea ek events hev now hn h1
  · rw [if_neg h1] at hs
    have hp : R.s.pending = true := by cases e : R.s.pending; exact absurd (.inl e) h1; rfl
    obtain ⟨l1, r, hlr⟩ := h.split (hn hp)
    have hls := h.lastS hlr
    have hk : r.o.kind = 2 := by rw [← hls]; exact Classical.byContradiction fun e => h1 (.inr (.inl e))
    have hi : r.o.id = id := by rw [← hls]; exact Classical.byContradiction fun e => h1 (.inr (.inr e))
    by_cases he : err ≠ 0
    · rw [if_pos he] at hs
      obtain ⟨rfl, rfl⟩ := Prod.mk.inj hs
      exact Rf.ans_err2 X lo c R w h hm id err out version ea ek events hev now hp l1 r hlr hk hi he
    · rw [if_neg he] at hs
      obtain ⟨rfl, rfl⟩ := Prod.mk.inj hs
      exact Rf.ans_ok2 X lo c R w h hm id err out version ea ek events hev now hp l1 r hlr hk hi (Classical.not_not.1 he)
variable {lo c m : Nat} {w w1 w2 : World} {R Q : ClR}
theorem both_idle {x : Value} (h : BothM lo c m w R Q) (hd : Does (fun k => Q.mut m k) lo c R w R.s [] x w1) : ∃ R1, BothM lo c m w1 R1 Q ∧ R1.s = R.s ∧ (∃ a, x = .slice a 0 0) ∧ Below lo w w1 := by
  obtain ⟨R1, outs, hh, hpl, -⟩ := half_of h hd
  obtain rfl := plain_nil hpl
  exact ⟨R1, ⟨h.same.trans hh.st.symm, hh.hc, hh.hm⟩, hh.st, hh.at_.nil, hh.below⟩
/-- Both wait no longer. -/
theorem both_cancel {R1 : ClR} (h : BothM lo c m w R Q) (h1 : ClM (fun k => Q.mut m k) lo w1 c R1) (he : R1.s = { R.s with pending := false }) (st : Step c R R1 w w1) :
    BothM lo c m (w1.setCell ⟨m, 3, none⟩ (.bool false)) R1 { Q with s := { Q.s with pending := false } } ∧ Rf.ClM (fun k => R1.mut c k) lo w1 m Q ∧ Below lo w (w1.setCell ⟨m, 3, none⟩ (.bool false)) := by
  have hq : Rf.ClM (fun k => R1.mut c k) lo w1 m Q := h.hm.other st.kept (fun _ h => h) (fun k hk hm => st.grow k hk hm) (fun k hk => (h1.mutlo k hk).2)
  have hq2 := hq.put 3 (.bool false) { Q.s with pending := false } rfl rfl hq.wh rfl
  have st2 := Rf.ClM.putStep m Q w1 3 (.bool false) { Q.s with pending := false }
  refine ⟨⟨by rw [he, ← h.same], h1.other st2.kept (fun _ h => h) (fun k hk hm => st2.grow k hk hm) (fun k hk => (hq2.mutlo k hk).2), hq2⟩, hq, (st.below h.hc).setCell (p := ⟨m, 3, none⟩) hq.hlo _⟩
theorem Half.keep2 {w0 : World} {s' : ClW} {x : Value} {outs : List OutR} (h : Half lo c m w0 w R Q s' x outs) (hb : Below w.heap.size w w1) : Half lo c m w0 w1 R Q s' x outs :=
  ⟨h.st, h.hc.keep hb, h.hm.keep hb, h.at_.below hb, fun o ho => OutR.ok_keep (h.ok o ho) hb, h.below.trans (hb.mono (by have := h.hc.hlo; have := h.hc.clt; omega))⟩
theorem Told.below {x y : Value} {s : ClW} {outs : List OutR} (h : Told lo w x y s outs) (hb : Below w.heap.size w w1) : Told lo w1 x y s outs := by
  refine ⟨h.at_.below hb, ?_, fun o ho id b bev e => ((h.ev o ho id b bev e).keep hb (Nat.le_refl _)).up hb.size, h.good, h.len⟩
  rcases h.routs with h | ⟨b, h1, h2, h3⟩
  · exact .inl h
  · exact .inr ⟨b, h1, h2, (hb.block b (Array.getElem?_eq_some_iff.1 h3).1).trans h3⟩
end Go.Proofs.YtapgjjfndbfnpaaDoor
