/-
  Slices of ints, and views, as a walk is told of them; that every such argument can be told so.
-/
import Derived.WalkKit
import Derived.ProofKit
import Derived.OpenShut
import Derived.ChangeSlices
import Derived.Lib.SmallJoins
import Derived.Lib.Hide
import Derived.Below
import Derived.Laws.OwnMore
import Derived.Laws.AppendOwn
import Derived.Laws.AppendOwnNone
import Derived.Laws.IdiomCopy
import Derived.Test.YtapgjjfndbfnpaaDoorProg
namespace Go.Proofs.YtapgjjfndbfnpaaDoor.Vw
open Go.ChangeShapes Go.WideShapes Go.ChangeAt Go.RowKit Go.Deep Go.WideElems Go.Maps

def I64 (n : Int) : Prop := -9223372036854775808 ≤ n ∧ n ≤ 9223372036854775807

theorem add_spot (x : Addr) (h : x.spot = none) (i : Nat) : x.add i = ⟨x.block, x.off + i, none⟩ := by
  unfold Addr.add
  split
  · rename_i hs; subst hs; cases x; simp_all
  · cases x; simp_all

/-- A slice of ints whose cells lie ahead of block B. -/
def IsInts (B : Nat) (w : World) (v : Value) (l : List Int) : Prop :=
  ∃ (a : Option Addr) (cap : Nat), v = .slice a l.length cap ∧ l.length ≤ cap ∧ cap ≤ maxLen ∧ (a = none → cap = 0) ∧ (∀ n ∈ l, I64 n) ∧
    (0 < l.length → ∃ b off, a = some ⟨b, off, none⟩ ∧ b < B ∧ ∀ i, (h : i < l.length) → w.cell? ⟨b, off + i, none⟩ = some (.int .i64 l[i]))

theorem IsInts.keep {B B' : Nat} {w w' : World} {v : Value} {l : List Int} (h : IsInts B w v l) (hb : Below B' w w') (hB : B ≤ B') : IsInts B w' v l := by
  obtain ⟨a, cap, rfl, h1, h2, h3, h4, h5⟩ := h
  refine ⟨a, cap, rfl, h1, h2, h3, h4, fun hp => ?_⟩
  obtain ⟨b, off, rfl, hlt, hc⟩ := h5 hp
  exact ⟨b, off, rfl, hlt, fun i hi => by rw [hb.cell (p := ⟨b, off + i, none⟩) (Nat.lt_of_lt_of_le hlt hB)]; exact hc i hi⟩

theorem IsInts.up {B B' : Nat} {w : World} {v : Value} {l : List Int} (h : IsInts B w v l) (hB : B ≤ B') : IsInts B' w v l := by
  obtain ⟨a, cap, rfl, h1, h2, h3, h4, h5⟩ := h
  refine ⟨a, cap, rfl, h1, h2, h3, h4, fun hp => ?_⟩
  obtain ⟨b, off, rfl, hlt, hc⟩ := h5 hp
  exact ⟨b, off, rfl, Nat.lt_of_lt_of_le hlt hB, hc⟩

/-- The parts of a slice of ints, once its form is known. -/
theorem IsInts.at_ {B : Nat} {w : World} {a : Option Addr} {n cap : Nat} {l : List Int} (h : IsInts B w (.slice a n cap) l) : n = l.length ∧ l.length ≤ cap ∧ cap ≤ maxLen ∧ (a = none → cap = 0) ∧ (∀ n ∈ l, I64 n) ∧
    (0 < l.length → ∃ b off, a = some ⟨b, off, none⟩ ∧ b < B ∧ ∀ i, (h : i < l.length) → w.cell? ⟨b, off + i, none⟩ = some (.int .i64 l[i])) := by
  obtain ⟨a', cap', he, h1, h2, h3, h4, h5⟩ := h
  injection he with e1 e2 e3
  subst e1 e2 e3
  exact ⟨rfl, h1, h2, h3, h4, h5⟩

theorem IsInts.form {B : Nat} {w : World} {v : Value} {l : List Int} (h : IsInts B w v l) : ∃ a cap, v = .slice a l.length cap := by
  obtain ⟨a, cap, rfl, _⟩ := h
  exact ⟨a, cap, rfl⟩

/-- Its cell at a place. -/
theorem IsInts.get {B : Nat} {w : World} {v : Value} {l : List Int} (h : IsInts B w v l) (i : Nat) (hi : i < l.length) : ∃ b off cap, v = .slice (some ⟨b, off, none⟩) l.length cap ∧ b < B ∧ l.length ≤ cap ∧ w.cell? ⟨b, off + i, none⟩ = some (.int .i64 l[i]) := by
  obtain ⟨a, cap, rfl, h1, h2, h3, h4, h5⟩ := h
  obtain ⟨b, off, rfl, hlt, hc⟩ := h5 (by omega)
  exact ⟨b, off, cap, rfl, hlt, h1, hc i hi⟩

theorem IsInts.cut {B : Nat} {w : World} {a : Option Addr} {n cap : Nat} {l : List Int} (h : IsInts B w (.slice a n cap) l) (k : Nat) (hk : k ≤ l.length) : IsInts B w (.slice a k cap) (l.take k) := by
  obtain ⟨rfl, h1, h2, h3, h4, h5⟩ := h.at_
  have hl : (l.take k).length = k := by rw [List.length_take]; omega
  refine ⟨a, cap, by rw [hl], by omega, h2, h3, fun n hn => h4 n (List.mem_of_mem_take hn), fun hp => ?_⟩
  obtain ⟨b, off, rfl, hlt, hc⟩ := h5 (by omega)
  exact ⟨b, off, rfl, hlt, fun i hi => by rw [hc i (by omega)]; simp⟩

/-- The cells of a row of ints. -/
def icells (l : List Int) : List Value := l.map (fun n => Value.int .i64 n)
theorem icells_len (l : List Int) : (icells l).length = l.length := by simp [icells]
theorem icells_append (l m : List Int) : icells (l ++ m) = icells l ++ icells m := by simp [icells]
theorem icells_snoc (l : List Int) (n : Int) : icells (l ++ [n]) = icells l ++ [.int .i64 n] := by simp [icells]

theorem own_ints {w : World} {base : Nat} {e : TypeId} {v : Value} {n : Nat} {l : List Int} (h : w.ownsRow base e 1 v n (icells l)) (hl64 : ∀ n ∈ l, I64 n) : IsInts w.heap.size w v l := by
  have hl : n = l.length := by have := h.1; rw [icells_len] at this; omega
  subst hl
  rcases h.2 with ⟨rfl, h0⟩ | ⟨g, cap, cur, rfl, hb, hg, h1, h2, h3, h4⟩
  · have hl0 : l = [] := List.eq_nil_of_length_eq_zero h0
    subst hl0
    exact ⟨none, 0, rfl, by simp, by simp, fun _ => rfl, hl64, fun h => absurd h (by simp)⟩
  · refine ⟨some ⟨g, 0, none⟩, cap, rfl, h1, h2, (fun h => by cases h), hl64, fun hp => ⟨g, 0, rfl, (Array.getElem?_eq_some_iff.1 hg).1, fun i hi => ?_⟩⟩
    have := h.cells (g := g) rfl i (.int .i64 l[i]) (by simp [icells, hi])
    rw [add_spot _ rfl] at this
    exact this

theorem open_islice {H : Type} {enc : TypeId × Value → H} {P : Program} {w : World} {t e : TypeId} {v : Value} {x : DataW H × List MemPlace} {n : Nat}
    (ht : P.underlying t = some (.slice e)) (he : P.underlying e = some (.int .i64)) (hc : P.cellsOf e = 1)
    (h : DataW.trod enc P w 0 (fun _ => true) true n t [v] = some x) : ∃ l, IsInts w.heap.size w v l := by
  rcases open_ints ht he hc h with ⟨hcs, _⟩ | ⟨x, len, cap, zs, hcs, _, hl, hm, hz, _, hcell, hw⟩
  · injection hcs with e1
    subst e1
    exact ⟨[], none, 0, rfl, by simp, by simp, fun _ => rfl, by simp, fun h => absurd h (by simp)⟩
  · injection hcs with e1
    subst e1
    have hz' : zs.length = cap := by simpa using hz
    have hlen : (zs.take len).length = len := by rw [List.length_take]; omega
    refine ⟨zs.take len, some x, cap, by rw [hlen], by omega, hm, (fun h => by cases h), fun n hn => ?_, fun hpos => ?_⟩
    · have := hw n (List.mem_of_mem_take hn)
      simpa [I64, Lit.wf, IntKind.min, IntKind.max, IntKind.signed, IntKind.bits] using this
    · have h0 := hcell 0 (by omega)
      have hsp : x.spot = none := by
        have := World.cell?_spot h0
        simpa [Addr.add] using this
      refine ⟨x.block, x.off, by cases x; simp_all, ?_, fun i hi => ?_⟩
      · have := World.block_lt_of_cell? w _ h0
        rw [add_spot x hsp] at this
        exact this
      · have := hcell i (by omega)
        rw [add_spot x hsp] at this
        rw [this]
        congr 2
        rw [List.getElem_take, List.getD_eq_getElem?_getD, List.getElem?_eq_getElem (by omega), Option.getD_some]

theorem open_ints_any {H : Type} {enc : TypeId × Value → H} {P : Program} {w : World} {base : Nat} {t e : TypeId} {v : Value} {d : DataW H} {p : List MemPlace}
    (ht : P.underlying t = some (.slice e)) (he : P.underlying e = some (.int .i64)) (hc : P.cellsOf e = 1) (hv : Value.okWide P w .any base t v)
    (h : DataW.Trod enc P w 0 (fun _ => true) true t v d p) : ∃ l, IsInts w.heap.size w v l := by
  obtain ⟨a0, len, cap, rfl⟩ := okWide_slice ht hv
  obtain ⟨fuel, hf⟩ := h
  exact open_islice (v := .slice a0 len cap) ht he hc (by simpa [Value.cells] using hf)

/-! ### views -/
structure VW where
  epoch : Int
  chain : List Int
  since : List Int
  boot : List Int

def IsView (B : Nat) (w : World) (v : Value) (V : VW) : Prop :=
  I64 V.epoch ∧ ∃ c s b, v = .agg #[.int .i64 V.epoch, c, s, b] ∧ IsInts B w c V.chain ∧ IsInts B w s V.since ∧ IsInts B w b V.boot

theorem IsView.keep {B B' : Nat} {w w' : World} {v : Value} {V : VW} (h : IsView B w v V) (hb : Below B' w w') (hB : B ≤ B') : IsView B w' v V := by
  obtain ⟨h0, c, s, b, rfl, h1, h2, h3⟩ := h
  exact ⟨h0, c, s, b, rfl, h1.keep hb hB, h2.keep hb hB, h3.keep hb hB⟩
theorem IsView.up {B B' : Nat} {w : World} {v : Value} {V : VW} (h : IsView B w v V) (hB : B ≤ B') : IsView B' w v V := by
  obtain ⟨h0, c, s, b, rfl, h1, h2, h3⟩ := h
  exact ⟨h0, c, s, b, rfl, h1.up hB, h2.up hB, h3.up hB⟩

theorem open_view {H : Type} {enc : TypeId × Value → H} {P : Program} {w : World} {base : Nat} {t ti ts : TypeId} {f0 f1 f2 f3 : Field} {v : Value} {d : DataW H} {p : List MemPlace}
    (ht : P.underlying t = some (.struct #[f0, f1, f2, f3])) (e0 : f0.type = ti) (e1 : f1.type = ts) (e2 : f2.type = ts) (e3 : f3.type = ts) (hone : oneCellFields P #[f0, f1, f2, f3] = true) (hC : P.cellsOf t = 4)
    (hi : P.underlying ti = some (.int .i64)) (hs : P.underlying ts = some (.slice ti)) (hc : P.cellsOf ti = 1) (hv : Value.okWide P w .any base t v)
    (h : DataW.Trod enc P w 0 (fun _ => true) true t v d p) : ∃ V, IsView w.heap.size w v V := by
  obtain ⟨v0, v1, v2, v3, y0, y1, y2, y3, n, rfl, _, _, h0, h1, h2, h3⟩ := Go.Joins.open_agg4 ht hone hC hv h
  rw [e0] at h0
  rw [e1] at h1
  rw [e2] at h2
  rw [e3] at h3
  obtain ⟨m, hm, _, hw⟩ := DataW.trod_int hi h0
  obtain ⟨l1, k1⟩ := open_islice hs hi hc h1
  obtain ⟨l2, k2⟩ := open_islice hs hi hc h2
  obtain ⟨l3, k3⟩ := open_islice hs hi hc h3
  injection hm with hm
  subst hm
  exact ⟨⟨m, l1, l2, l3⟩, by simpa [I64, Lit.wf, IntKind.min, IntKind.max, IntKind.signed, IntKind.bits] using hw, v1, v2, v3, rfl, k1, k2, k3⟩
end Go.Proofs.YtapgjjfndbfnpaaDoor.Vw
