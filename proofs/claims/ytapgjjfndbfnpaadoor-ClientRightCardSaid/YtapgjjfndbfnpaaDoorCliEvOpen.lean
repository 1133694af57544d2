/-
  What the arguments are, opened: events, batches, rows of batches.
-/
import Derived.Test.YtapgjjfndbfnpaaDoorEvData
import Derived.Deep.SlicePairs
import Derived.Lib.SmallJoins
import Derived.OpenShut
import Derived.ChangeMaps
namespace Go.Proofs.YtapgjjfndbfnpaaDoor
open Go.RowKit Go.ChangeShapes Go.WideShapes Go.ChangeAt
set_option maxRecDepth 100000

theorem cOf_string : Tryd.prog.cellsOf 9 = 1 := by kernel_rfl
theorem cOf_int : Tryd.prog.cellsOf 3 = 1 := by kernel_rfl
theorem cOf_events : Tryd.prog.cellsOf 22 = 1 := by kernel_rfl
theorem cOf_event : Tryd.prog.cellsOf 88 = 2 := by kernel_rfl
theorem cOf_batch : Tryd.prog.cellsOf 24 = 5 := by kernel_rfl

theorem spotE {a : Addr} (h : a.spot = none) (i : Nat) : a.add i = ⟨a.block, a.off + i, none⟩ := by
  cases a
  simp only at h
  subst h
  unfold Addr.add
  split <;> simp_all

theorem open_events {H : Type} {enc : TypeId × Value → H} {w : World} {n : Nat} {cs : List Value} {x : DataW H × List MemPlace}
    (h : DataW.trod enc Tryd.prog w 0 (fun _ => true) true n 22 cs = some x) : ∃ v l, cs = [v] ∧ IsEvents w.heap.size w v l := by
  rcases Go.Deep.open_slice_pairs Tryd.underlying22 Tryd.underlying88 cOf_event rfl rfl cOf_string cOf_string h with ⟨rfl, _⟩ | ⟨a, len, cap, m, k, V0, V1, D0, D1, P0, P1, rfl, _, hl, hm, hmm, _, hx⟩
  · exact ⟨_, [], rfl, events_nil _ _⟩
  · have hmc : m = cap := by rw [hmm]; rfl
    subst hmc
    have each : ∀ i, i < m → ∃ e : EV, V0 i = .string e.kind ∧ V1 i = .string e.data := fun i hi => by
      obtain ⟨_, _, h0, h1⟩ := hx i hi
      obtain ⟨s0, e0, _⟩ := DataW.trod_string Tryd.underlying9 h0
      obtain ⟨s1, e1, _⟩ := DataW.trod_string Tryd.underlying9 h1
      exact ⟨⟨s0, s1⟩, by simpa using e0, by simpa using e1⟩
    have hEi : Inhabited EV := ⟨⟨⟨#[]⟩, ⟨#[]⟩⟩⟩
    obtain ⟨E, hE⟩ := Go.Deep.choose_lt each
    have hlen : ((List.range len).map E).length = len := by simp
    refine ⟨_, (List.range len).map E, rfl, some a, m, by rw [hlen], by omega, hm, fun e => (by cases e), fun hp => ?_⟩
    rw [hlen] at hp
    have hsp : a.spot = none := by
      have := World.cell?_spot (hx 0 (by omega)).1
      simpa [Addr.add] using this
    refine ⟨a.block, a.off, congrArg some (by cases a; simp only at hsp; subst hsp; rfl), ?_, fun i hi => ?_⟩
    · have := World.block_lt_of_cell? w _ (hx 0 (by omega)).1
      rw [spotE hsp] at this
      exact this
    · rw [hlen] at hi
      obtain ⟨h0, h1, _⟩ := hx i (by omega)
      rw [spotE hsp] at h0 h1
      simp only [List.getElem_map, List.getElem_range]
      rw [← (hE i (by omega)).1, ← (hE i (by omega)).2]
      exact ⟨h0, by rw [Nat.add_assoc]; exact h1⟩

/-- A batch, by its cells. -/
theorem open_bcells {H : Type} {enc : TypeId × Value → H} {w : World} {n : Nat} {cs : List Value} {x : DataW H × List MemPlace}
    (h : DataW.trod enc Tryd.prog w 0 (fun _ => true) true n 24 cs = some x) : ∃ (b : BW) (lv : Value), cs = [.string b.stream, .int .i64 b.expect, .int .i64 b.session, .int .i64 b.seq, lv] ∧ IsEvents w.heap.size w lv b.events := by
  obtain ⟨xs, k, _, _, hl, hxl, hf⟩ := DataW.trod_struct Tryd.underlying24 h
  rw [cOf_batch] at hl
  match cs, hl, xs, hxl with
  | [v0, v1, v2, v3, v4], _, [y0, y1, y2, y3, y4], _ =>
    have g0 := hf 0 _ rfl
    have g1 := hf 1 _ rfl
    have g2 := hf 2 _ rfl
    have g3 := hf 3 _ rfl
    have g4 := hf 4 _ rfl
    simp [cOf_string, cOf_int, cOf_events] at g0 g1 g2 g3 g4
    obtain ⟨s0, e0, _⟩ := DataW.trod_string Tryd.underlying9 g0
    obtain ⟨s1, e1, _⟩ := DataW.trod_int Tryd.underlying3 g1
    obtain ⟨s2, e2, _⟩ := DataW.trod_int Tryd.underlying3 g2
    obtain ⟨s3, e3, _⟩ := DataW.trod_int Tryd.underlying3 g3
    obtain ⟨v, l, e4, he⟩ := open_events g4
    simp only [List.cons.injEq, and_true] at e0 e1 e2 e3 e4
    subst e0 e1 e2 e3 e4
    exact ⟨⟨s0, s1, s2, s3, l⟩, _, rfl, he⟩

theorem open_batch {H : Type} {enc : TypeId × Value → H} {w : World} {base : Nat} {v : Value} {d : DataW H} {p : List MemPlace}
    (hv : Value.okWide Tryd.prog w .any base 24 v) (h : DataW.Trod enc Tryd.prog w 0 (fun _ => true) true 24 v d p) : ∃ b, IsBatch w.heap.size w v b := by
  obtain ⟨cs, rfl, hsz⟩ := okWide_struct Tryd.underlying24 hv
  obtain ⟨fuel, hf⟩ := h
  obtain ⟨b, lv, hcs, he⟩ := open_bcells hf
  refine ⟨b, lv, ?_, he⟩
  have : cs.toList = [.string b.stream, .int .i64 b.expect, .int .i64 b.session, .int .i64 b.seq, lv] := by simpa [Value.cells] using hcs
  cases cs
  simp_all

theorem open_event {H : Type} {enc : TypeId × Value → H} {w : World} {base : Nat} {v : Value} {d : DataW H} {p : List MemPlace}
    (hv : Value.okWide Tryd.prog w .any base 88 v) (h : DataW.Trod enc Tryd.prog w 0 (fun _ => true) true 88 v d p) : ∃ e : EV, v = .agg #[.string e.kind, .string e.data] := by
  obtain ⟨v0, v1, y0, y1, n, rfl, _, _, h0, h1⟩ := Go.Joins.open_agg2 Tryd.underlying88 (by kernel_rfl) cOf_event hv h
  obtain ⟨s0, e0, _⟩ := DataW.trod_string Tryd.underlying9 h0
  obtain ⟨s1, e1, _⟩ := DataW.trod_string Tryd.underlying9 h1
  injection e0 with e0
  injection e1 with e1
  subst e0 e1
  exact ⟨⟨s0, s1⟩, rfl⟩
end Go.Proofs.YtapgjjfndbfnpaaDoor
