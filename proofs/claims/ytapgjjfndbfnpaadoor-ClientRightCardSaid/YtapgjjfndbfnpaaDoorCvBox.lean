/-
  What is held of a box of four cells and of a result's cell behind it, through the calls of a region and its store. Printed by gen_vwwithout.py of this claim's writer.
-/
import Derived.Test.YtapgjjfndbfnpaaDoorCvAt
import Derived.Deep.RegionHeld3
import Derived.Laws.ResultCell
import Derived.Laws.Rows
import Derived.Deep.AppendLies
namespace Go.Proofs.YtapgjjfndbfnpaaDoor.Vw
open Go.RowKit

theorem ints_nil (B : Nat) (w : World) : IsInts B w (.slice none 0 0) [] := ⟨none, 0, rfl, by simp, by simp, fun _ => rfl, by simp, fun h => absurd h (by simp)⟩
theorem view_nil (B : Nat) (w : World) : IsView B w (.agg #[.int .i64 0, .slice none 0 0, .slice none 0 0, .slice none 0 0]) zeroV :=
  ⟨by constructor <;> decide, _, _, _, rfl, ints_nil _ _, ints_nil _ _, ints_nil _ _⟩

/-- The rows of a view lie in no block below lo. -/
def FreshV (lo : Nat) (v : Value) : Prop := ∃ e c s b, v = .agg #[e, c, s, b] ∧ (∀ j, c.ownBlock = some j → lo ≤ j) ∧ (∀ j, s.ownBlock = some j → lo ≤ j) ∧ (∀ j, b.ownBlock = some j → lo ≤ j)
theorem freshV_nil (lo : Nat) : FreshV lo (.agg #[.int .i64 0, .slice none 0 0, .slice none 0 0, .slice none 0 0]) :=
  ⟨_, _, _, _, rfl, fun _ h => by simp [Value.ownBlock] at h, fun _ h => by simp [Value.ownBlock] at h, fun _ h => by simp [Value.ownBlock] at h⟩

/-- The cells of a box, and of a result's, behind it. -/
theorem box_cells {w W : World} {a0 a1 a2 a3 : Value} {o : Obj} {t : TypeId} (hb : Below (w.heap.size + 2) ((w.alloc (.cells #[a0, a1, a2, a3] t)).alloc o) W) :
    W.cell? ⟨w.heap.size, 0, none⟩ = some a0 ∧ W.cell? ⟨w.heap.size, 1, none⟩ = some a1 ∧ W.cell? ⟨w.heap.size, 2, none⟩ = some a2 ∧ W.cell? ⟨w.heap.size, 3, none⟩ = some a3 :=
  ⟨(hb.cell (p := ⟨w.heap.size, 0, none⟩) (by simp)).trans (by simp), (hb.cell (p := ⟨w.heap.size, 1, none⟩) (by simp)).trans (by simp),
    (hb.cell (p := ⟨w.heap.size, 2, none⟩) (by simp)).trans (by simp), (hb.cell (p := ⟨w.heap.size, 3, none⟩) (by simp)).trans (by simp)⟩
theorem box_cells1 {w W : World} {a0 a1 a2 a3 : Value} {t : TypeId} (hb : Below (w.heap.size + 1) (w.alloc (.cells #[a0, a1, a2, a3] t)) W) :
    W.cell? ⟨w.heap.size, 0, none⟩ = some a0 ∧ W.cell? ⟨w.heap.size, 1, none⟩ = some a1 ∧ W.cell? ⟨w.heap.size, 2, none⟩ = some a2 ∧ W.cell? ⟨w.heap.size, 3, none⟩ = some a3 :=
  ⟨(hb.cell (p := ⟨w.heap.size, 0, none⟩) (by simp)).trans (by simp), (hb.cell (p := ⟨w.heap.size, 1, none⟩) (by simp)).trans (by simp),
    (hb.cell (p := ⟨w.heap.size, 2, none⟩) (by simp)).trans (by simp), (hb.cell (p := ⟨w.heap.size, 3, none⟩) (by simp)).trans (by simp)⟩
theorem res_cells {w W : World} {a0 a1 a2 a3 : Value} {o : Obj} {t : TypeId} (hb : Below (w.heap.size + 2) ((w.alloc o).alloc (.cells #[a0, a1, a2, a3] t)) W) :
    W.cell? ⟨w.heap.size + 1, 0, none⟩ = some a0 ∧ W.cell? ⟨w.heap.size + 1, 1, none⟩ = some a1 ∧ W.cell? ⟨w.heap.size + 1, 2, none⟩ = some a2 ∧ W.cell? ⟨w.heap.size + 1, 3, none⟩ = some a3 :=
  ⟨(hb.cell (p := ⟨w.heap.size + 1, 0, none⟩) (by simp)).trans (by simp), (hb.cell (p := ⟨w.heap.size + 1, 1, none⟩) (by simp)).trans (by simp),
    (hb.cell (p := ⟨w.heap.size + 1, 2, none⟩) (by simp)).trans (by simp), (hb.cell (p := ⟨w.heap.size + 1, 3, none⟩) (by simp)).trans (by simp)⟩
theorem res_frozen {w W : World} {a0 a1 a2 a3 : Value} {o : Obj} {t : TypeId} (hb : Below (w.heap.size + 2) ((w.alloc o).alloc (.cells #[a0, a1, a2, a3] t)) W) (j : Nat) : W.frozen? ⟨w.heap.size + 1, j, none⟩ = false := by
  have h := hb.block (w.heap.size + 1) (by omega)
  have h2 := heap_alloc_new (w.alloc o) (.cells #[a0, a1, a2, a3] t)
  rw [World.size_alloc] at h2
  unfold World.frozen?
  rw [h, h2]
  simp
theorem below_one' {w W : World} {o : Obj} (h : Below (w.heap.size + 1) (w.alloc o) W) : Below w.heap.size w W := ((Below.refl _ _).alloc (Nat.le_refl _) _).trans (h.mono (by omega))
theorem below_two1 {w W : World} {o o' : Obj} (h : Below (w.heap.size + 2) ((w.alloc o).alloc o') W) : Below (w.heap.size + 1) (w.alloc o) W := ((Below.refl _ _).alloc (by simp) _).trans (h.mono (by omega))
theorem frozen_keep {w W : World} (h : Below w.heap.size w W) {g : Nat} (hg : g < w.heap.size) (j : Nat) : W.frozen? ⟨g, j, none⟩ = w.frozen? ⟨g, j, none⟩ := by
  unfold World.frozen?
  rw [h.block g hg]
theorem below_two {w : World} (o o' : Obj) : Below w.heap.size w ((w.alloc o).alloc o') := ((Below.refl _ _).alloc (Nat.le_refl _) _).alloc (by simp) _
theorem below_two' {w W : World} {o o' : Obj} (h : Below (w.heap.size + 2) ((w.alloc o).alloc o') W) : Below w.heap.size w W := (below_two o o').trans (h.mono (by omega))
theorem below_more {B : Nat} {a w w' : World} (h : Below B a w) (hB : B ≤ w.heap.size) (k : Below w.heap.size w w') : Below B a w' := h.trans (k.mono hB)
theorem size_two {w W : World} {o o' : Obj} (h : Below (w.heap.size + 2) ((w.alloc o).alloc o') W) : w.heap.size + 2 ≤ W.heap.size := by have := h.size; simp only [World.size_alloc] at this; omega

theorem own_form {base : Nat} {e : TypeId} {size : Nat} {v : Value} {n : Nat} {xs : List Value} {w : World} (h : w.ownsRow base e size v n xs) : ∃ a cap, v = .slice a n cap := by
  rcases h.2 with ⟨rfl, rfl⟩ | ⟨g, cap, cur, rfl, _⟩
  · exact ⟨_, _, rfl⟩
  · exact ⟨_, _, rfl⟩
theorem own_set {base : Nat} {e : TypeId} {size : Nat} {v : Value} {n : Nat} {xs : List Value} {w : World} (h : w.ownsRow base e size v n xs) (b o : Nat) (hb : b < base) (x : Value) : (w.setCell ⟨b, o, none⟩ x).ownsRow base e size v n xs := by
  obtain ⟨h1, h2⟩ := h
  refine ⟨h1, ?_⟩
  rcases h2 with h2 | ⟨g, cap, cur, hv, hg, hh, r⟩
  · exact Or.inl h2
  · refine Or.inr ⟨g, cap, cur, hv, hg, ?_, r⟩
    rw [← hh]
    simp only [World.setCell]
    rw [Array.getElem?_modify, if_neg (by omega)]

theorem block_set {w : World} {g : Nat} {cs : Array Value} {t : TypeId} {fr : Nat × Nat} (h : w.heap[g]? = some (.cells cs t fr)) (o : Nat) (x : Value) : (w.setCell ⟨g, o, none⟩ x).heap[g]? = some (.cells (cs.setIfInBounds o x) t fr) := by
  simp [World.setCell, Array.getElem?_modify, h]

/-- What comes back, where the first result is a cell of four that has just been stored. -/
theorem ret_cell4 {P : Program} {fn : Func} {p u : Tmp} {ty t : TypeId} (h : fn.results = #[.cell p ty, .tmp u]) (tmps : Array Value) (w : World) (g : Nat) (z0 z1 z2 z3 v0 v1 v2 v3 : Value) (fr : Nat × Nat) (d : TypeDesc)
    (hp : tmps.getD p undef = .pointer (some ⟨g, 0, none⟩)) (hg : w.heap[g]? = some (.cells #[z0, z1, z2, z3] t fr))
    (hu : P.underlying ty = some d) (hd : (match d with | .struct _ | .array _ _ => true | _ => false) = true) (hi : (P.info? ty).map (·.size) = some 4) :
    (results fn tmps).run P ((((w.setCell ⟨g, 0, none⟩ v0).setCell ⟨g, 1, none⟩ v1).setCell ⟨g, 2, none⟩ v2).setCell ⟨g, 3, none⟩ v3) =
      .ok (.tuple #[.agg #[v0, v1, v2, v3], tmps.getD u undef]) ((((w.setCell ⟨g, 0, none⟩ v0).setCell ⟨g, 1, none⟩ v1).setCell ⟨g, 2, none⟩ v2).setCell ⟨g, 3, none⟩ v3) := by
  have hb := block_set (block_set (block_set (block_set hg 0 v0) 1 v1) 2 v2) 3 v3
  rw [results_cell_tmp h, hp]
  simp only [asAddr, Sem.run_pure, Result.andThen_ok]
  rw [run_loadVar_row _ g t ty _ fr d hb hu hd (by rw [hi]; simp)]
  simp

theorem below_set4 {B : Nat} {a w : World} (h : Below B a w) (g : Nat) (hg : B ≤ g) (v0 v1 v2 v3 : Value) : Below B a ((((w.setCell ⟨g, 0, none⟩ v0).setCell ⟨g, 1, none⟩ v1).setCell ⟨g, 2, none⟩ v2).setCell ⟨g, 3, none⟩ v3) :=
  (((h.setCell (p := ⟨g, 0, none⟩) hg v0).setCell (p := ⟨g, 1, none⟩) hg v1).setCell (p := ⟨g, 2, none⟩) hg v2).setCell (p := ⟨g, 3, none⟩) hg v3
theorem own_set4 {base : Nat} {e : TypeId} {size : Nat} {v : Value} {n : Nat} {xs : List Value} {w : World} (h : w.ownsRow base e size v n xs) (g : Nat) (hb : g < base) (v0 v1 v2 v3 : Value) :
    ((((w.setCell ⟨g, 0, none⟩ v0).setCell ⟨g, 1, none⟩ v1).setCell ⟨g, 2, none⟩ v2).setCell ⟨g, 3, none⟩ v3).ownsRow base e size v n xs :=
  own_set (own_set (own_set (own_set h g 0 hb v0) g 1 hb v1) g 2 hb v2) g 3 hb v3
theorem cell_set4 {w : World} {g b o : Nat} (h : b ≠ g) (v0 v1 v2 v3 : Value) : ((((w.setCell ⟨g, 0, none⟩ v0).setCell ⟨g, 1, none⟩ v1).setCell ⟨g, 2, none⟩ v2).setCell ⟨g, 3, none⟩ v3).cell? ⟨b, o, none⟩ = w.cell? ⟨b, o, none⟩ := by
  rw [World.cell?_setCell_other _ _ _ _ (by simp only [ne_eq, Addr.mk.injEq]; omega), World.cell?_setCell_other _ _ _ _ (by simp only [ne_eq, Addr.mk.injEq]; omega), World.cell?_setCell_other _ _ _ _ (by simp only [ne_eq, Addr.mk.injEq]; omega), World.cell?_setCell_other _ _ _ _ (by simp only [ne_eq, Addr.mk.injEq]; omega)]

theorem ints_set {B : Nat} {w : World} {v : Value} {l : List Int} (h : IsInts B w v l) (g o : Nat) (hg : ∀ j, v.ownBlock = some j → j ≠ g) (x : Value) : IsInts B (w.setCell ⟨g, o, none⟩ x) v l := by
  obtain ⟨a, cap, rfl, h1, h2, h3, h4, h5⟩ := h
  refine ⟨a, cap, rfl, h1, h2, h3, h4, fun hp => ?_⟩
  obtain ⟨b, off, rfl, hlt, hc⟩ := h5 hp
  refine ⟨b, off, rfl, hlt, fun i hi => ?_⟩
  have := hg b rfl
  rw [World.cell?_setCell_other _ _ _ _ (by simp only [ne_eq, Addr.mk.injEq]; omega)]
  exact hc i hi
theorem view_set {B lo : Nat} {w : World} {v : Value} {V : VW} (h : IsView B w v V) (hf : FreshV lo v) (g o : Nat) (hg : g < lo) (x : Value) : IsView B (w.setCell ⟨g, o, none⟩ x) v V := by
  obtain ⟨h0, c, s, b, rfl, h1, h2, h3⟩ := h
  obtain ⟨_, _, _, _, e, f1, f2, f3⟩ := hf
  injection e with e
  simp only [Array.mk.injEq, List.cons.injEq, and_true] at e
  obtain ⟨_, rfl, rfl, rfl⟩ := e
  exact ⟨h0, _, _, _, rfl, ints_set h1 g o (fun j hj => by have := f1 j hj; omega) x, ints_set h2 g o (fun j hj => by have := f2 j hj; omega) x, ints_set h3 g o (fun j hj => by have := f3 j hj; omega) x⟩
theorem view_set4 {B lo : Nat} {w : World} {v : Value} {V : VW} (h : IsView B w v V) (hf : FreshV lo v) (g : Nat) (hg : g < lo) (v0 v1 v2 v3 : Value) :
    IsView B ((((w.setCell ⟨g, 0, none⟩ v0).setCell ⟨g, 1, none⟩ v1).setCell ⟨g, 2, none⟩ v2).setCell ⟨g, 3, none⟩ v3) v V :=
  view_set (view_set (view_set (view_set h hf g 0 hg v0) hf g 1 hg v1) hf g 2 hg v2) hf g 3 hg v3

theorem vinfo : (Tryd.prog.info? 82).map (·.size) = some 4 := by kernel_rfl

theorem res_block {w W : World} {cs : Array Value} {o : Obj} {t : TypeId} (hb : Below (w.heap.size + 2) ((w.alloc o).alloc (.cells cs t)) W) : W.heap[w.heap.size + 1]? = some (.cells cs t) := by
  rw [hb.block (w.heap.size + 1) (by omega)]
  exact heap_alloc2_new w o _

/-- The value at an address, or none. -/
def cellOr (w : World) (a : Addr) : Value := (w.cell? a).getD undef
theorem cellOr_some {w : World} {a : Addr} (h : (w.cell? a).isSome = true) : w.cell? a = some (cellOr w a) := by
  unfold cellOr
  cases hh : w.cell? a with
  | none => rw [hh] at h; cases h
  | some v => rfl
theorem some_set {w : World} {a b : Addr} {v : Value} (h : (w.cell? a).isSome = true) : ((w.setCell b v).cell? a).isSome = true := by
  by_cases e : b = a
  · subst e
    obtain ⟨u, hu⟩ := Option.isSome_iff_exists.1 h
    rw [World.cell?_setCell_same _ _ _ hu]
    rfl
  · rw [World.cell?_setCell_other _ _ _ _ e]
    exact h
theorem cellOr_set4 {w : World} {a b0 b1 b2 b3 : Addr} {v0 v1 v2 v3 u : Value} (h : w.cell? a = some u) : ((((w.setCell b0 v0).setCell b1 v1).setCell b2 v2).setCell b3 v3).cell? a = some (cellOr ((((w.setCell b0 v0).setCell b1 v1).setCell b2 v2).setCell b3 v3) a) :=
  cellOr_some (some_set (some_set (some_set (some_set (by rw [h]; rfl)))))

theorem held_of {w W : World} {a0 a1 a2 a3 z0 z1 z2 z3 : Value} {t t' : TypeId} (hb : Below (w.heap.size + 2) ((w.alloc (.cells #[a0, a1, a2, a3] t)).alloc (.cells #[z0, z1, z2, z3] t')) W) :
    W.cell? ⟨w.heap.size, 0, none⟩ = some (a0) ∧ W.cell? ⟨w.heap.size, 1, none⟩ = some (a1) ∧ W.cell? ⟨w.heap.size, 2, none⟩ = some (a2) ∧ W.cell? ⟨w.heap.size, 3, none⟩ = some (a3) ∧ W.cell? ⟨w.heap.size + 1, 0, none⟩ = some (cellOr W ⟨w.heap.size + 1, 0, none⟩) ∧ W.cell? ⟨w.heap.size + 1, 1, none⟩ = some (cellOr W ⟨w.heap.size + 1, 1, none⟩) ∧ W.cell? ⟨w.heap.size + 1, 2, none⟩ = some (cellOr W ⟨w.heap.size + 1, 2, none⟩) ∧ W.cell? ⟨w.heap.size + 1, 3, none⟩ = some (cellOr W ⟨w.heap.size + 1, 3, none⟩) ∧ W.frozen? ⟨w.heap.size + 1, 0, none⟩ = false ∧ W.frozen? ⟨w.heap.size + 1, 1, none⟩ = false ∧ W.frozen? ⟨w.heap.size + 1, 2, none⟩ = false ∧ W.frozen? ⟨w.heap.size + 1, 3, none⟩ = false ∧ w.heap.size + 2 ≤ W.heap.size ∧ Below (w.heap.size + 1) (w.alloc (.cells #[a0, a1, a2, a3] t)) W := by
  obtain ⟨y0, y1, y2, y3⟩ := box_cells hb
  obtain ⟨u0, u1, u2, u3⟩ := res_cells hb
  exact ⟨y0, y1, y2, y3, cellOr_some (by rw [u0]; rfl), cellOr_some (by rw [u1]; rfl), cellOr_some (by rw [u2]; rfl), cellOr_some (by rw [u3]; rfl), res_frozen hb 0, res_frozen hb 1, res_frozen hb 2, res_frozen hb 3, size_two hb, below_two1 hb⟩

theorem held_below {w W : World} {a0 a1 a2 a3 : Value} {t : TypeId}
    (h : W.cell? ⟨w.heap.size, 0, none⟩ = some (a0) ∧ W.cell? ⟨w.heap.size, 1, none⟩ = some (a1) ∧ W.cell? ⟨w.heap.size, 2, none⟩ = some (a2) ∧ W.cell? ⟨w.heap.size, 3, none⟩ = some (a3) ∧ W.cell? ⟨w.heap.size + 1, 0, none⟩ = some (cellOr W ⟨w.heap.size + 1, 0, none⟩) ∧ W.cell? ⟨w.heap.size + 1, 1, none⟩ = some (cellOr W ⟨w.heap.size + 1, 1, none⟩) ∧ W.cell? ⟨w.heap.size + 1, 2, none⟩ = some (cellOr W ⟨w.heap.size + 1, 2, none⟩) ∧ W.cell? ⟨w.heap.size + 1, 3, none⟩ = some (cellOr W ⟨w.heap.size + 1, 3, none⟩) ∧ W.frozen? ⟨w.heap.size + 1, 0, none⟩ = false ∧ W.frozen? ⟨w.heap.size + 1, 1, none⟩ = false ∧ W.frozen? ⟨w.heap.size + 1, 2, none⟩ = false ∧ W.frozen? ⟨w.heap.size + 1, 3, none⟩ = false ∧ w.heap.size + 2 ≤ W.heap.size ∧ Below (w.heap.size + 1) (w.alloc (.cells #[a0, a1, a2, a3] t)) W) : Below w.heap.size w W := below_one' h.2.2.2.2.2.2.2.2.2.2.2.2.2

theorem cellOr_keep {w W : World} (h : Below w.heap.size w W) {g j : Nat} (hg : g < w.heap.size) {u : Value} (hu : w.cell? ⟨g, j, none⟩ = some u) : W.cell? ⟨g, j, none⟩ = some (cellOr W ⟨g, j, none⟩) :=
  cellOr_some (by rw [h.cell (p := ⟨g, j, none⟩) hg, hu]; rfl)

theorem held_keep {w W W' : World} {a0 a1 a2 a3 : Value} {t : TypeId}
    (h : W.cell? ⟨w.heap.size, 0, none⟩ = some (a0) ∧ W.cell? ⟨w.heap.size, 1, none⟩ = some (a1) ∧ W.cell? ⟨w.heap.size, 2, none⟩ = some (a2) ∧ W.cell? ⟨w.heap.size, 3, none⟩ = some (a3) ∧ W.cell? ⟨w.heap.size + 1, 0, none⟩ = some (cellOr W ⟨w.heap.size + 1, 0, none⟩) ∧ W.cell? ⟨w.heap.size + 1, 1, none⟩ = some (cellOr W ⟨w.heap.size + 1, 1, none⟩) ∧ W.cell? ⟨w.heap.size + 1, 2, none⟩ = some (cellOr W ⟨w.heap.size + 1, 2, none⟩) ∧ W.cell? ⟨w.heap.size + 1, 3, none⟩ = some (cellOr W ⟨w.heap.size + 1, 3, none⟩) ∧ W.frozen? ⟨w.heap.size + 1, 0, none⟩ = false ∧ W.frozen? ⟨w.heap.size + 1, 1, none⟩ = false ∧ W.frozen? ⟨w.heap.size + 1, 2, none⟩ = false ∧ W.frozen? ⟨w.heap.size + 1, 3, none⟩ = false ∧ w.heap.size + 2 ≤ W.heap.size ∧ Below (w.heap.size + 1) (w.alloc (.cells #[a0, a1, a2, a3] t)) W) (k : Below W.heap.size W W') :
    W'.cell? ⟨w.heap.size, 0, none⟩ = some (a0) ∧ W'.cell? ⟨w.heap.size, 1, none⟩ = some (a1) ∧ W'.cell? ⟨w.heap.size, 2, none⟩ = some (a2) ∧ W'.cell? ⟨w.heap.size, 3, none⟩ = some (a3) ∧ W'.cell? ⟨w.heap.size + 1, 0, none⟩ = some (cellOr W' ⟨w.heap.size + 1, 0, none⟩) ∧ W'.cell? ⟨w.heap.size + 1, 1, none⟩ = some (cellOr W' ⟨w.heap.size + 1, 1, none⟩) ∧ W'.cell? ⟨w.heap.size + 1, 2, none⟩ = some (cellOr W' ⟨w.heap.size + 1, 2, none⟩) ∧ W'.cell? ⟨w.heap.size + 1, 3, none⟩ = some (cellOr W' ⟨w.heap.size + 1, 3, none⟩) ∧ W'.frozen? ⟨w.heap.size + 1, 0, none⟩ = false ∧ W'.frozen? ⟨w.heap.size + 1, 1, none⟩ = false ∧ W'.frozen? ⟨w.heap.size + 1, 2, none⟩ = false ∧ W'.frozen? ⟨w.heap.size + 1, 3, none⟩ = false ∧ w.heap.size + 2 ≤ W'.heap.size ∧ Below (w.heap.size + 1) (w.alloc (.cells #[a0, a1, a2, a3] t)) W' := by
  obtain ⟨_, _, _, _, c0, c1, c2, c3, e0, e1, e2, e3, hz2, hk0⟩ := h
  have hk := below_more hk0 (by omega) k
  obtain ⟨u0, u1, u2, u3⟩ := box_cells1 hk
  exact ⟨u0, u1, u2, u3, cellOr_keep k (by omega) c0, cellOr_keep k (by omega) c1, cellOr_keep k (by omega) c2, cellOr_keep k (by omega) c3,
    (frozen_keep k (by omega) _).trans e0, (frozen_keep k (by omega) _).trans e1, (frozen_keep k (by omega) _).trans e2, (frozen_keep k (by omega) _).trans e3, Nat.le_trans hz2 k.size, hk⟩

theorem held_grow {w W W' : World} {a0 a1 a2 a3 : Value} {t : TypeId} {row : Option Nat}
    (h : W.cell? ⟨w.heap.size, 0, none⟩ = some (a0) ∧ W.cell? ⟨w.heap.size, 1, none⟩ = some (a1) ∧ W.cell? ⟨w.heap.size, 2, none⟩ = some (a2) ∧ W.cell? ⟨w.heap.size, 3, none⟩ = some (a3) ∧ W.cell? ⟨w.heap.size + 1, 0, none⟩ = some (cellOr W ⟨w.heap.size + 1, 0, none⟩) ∧ W.cell? ⟨w.heap.size + 1, 1, none⟩ = some (cellOr W ⟨w.heap.size + 1, 1, none⟩) ∧ W.cell? ⟨w.heap.size + 1, 2, none⟩ = some (cellOr W ⟨w.heap.size + 1, 2, none⟩) ∧ W.cell? ⟨w.heap.size + 1, 3, none⟩ = some (cellOr W ⟨w.heap.size + 1, 3, none⟩) ∧ W.frozen? ⟨w.heap.size + 1, 0, none⟩ = false ∧ W.frozen? ⟨w.heap.size + 1, 1, none⟩ = false ∧ W.frozen? ⟨w.heap.size + 1, 2, none⟩ = false ∧ W.frozen? ⟨w.heap.size + 1, 3, none⟩ = false ∧ w.heap.size + 2 ≤ W.heap.size ∧ Below (w.heap.size + 1) (w.alloc (.cells #[a0, a1, a2, a3] t)) W) (k : W.grownBy W' row) (hr : ∀ j, row = some j → w.heap.size + 2 ≤ j) :
    W'.cell? ⟨w.heap.size, 0, none⟩ = some (a0) ∧ W'.cell? ⟨w.heap.size, 1, none⟩ = some (a1) ∧ W'.cell? ⟨w.heap.size, 2, none⟩ = some (a2) ∧ W'.cell? ⟨w.heap.size, 3, none⟩ = some (a3) ∧ W'.cell? ⟨w.heap.size + 1, 0, none⟩ = some (cellOr W' ⟨w.heap.size + 1, 0, none⟩) ∧ W'.cell? ⟨w.heap.size + 1, 1, none⟩ = some (cellOr W' ⟨w.heap.size + 1, 1, none⟩) ∧ W'.cell? ⟨w.heap.size + 1, 2, none⟩ = some (cellOr W' ⟨w.heap.size + 1, 2, none⟩) ∧ W'.cell? ⟨w.heap.size + 1, 3, none⟩ = some (cellOr W' ⟨w.heap.size + 1, 3, none⟩) ∧ W'.frozen? ⟨w.heap.size + 1, 0, none⟩ = false ∧ W'.frozen? ⟨w.heap.size + 1, 1, none⟩ = false ∧ W'.frozen? ⟨w.heap.size + 1, 2, none⟩ = false ∧ W'.frozen? ⟨w.heap.size + 1, 3, none⟩ = false ∧ w.heap.size + 2 ≤ W'.heap.size ∧ Below (w.heap.size + 1) (w.alloc (.cells #[a0, a1, a2, a3] t)) W' := by
  obtain ⟨y0, y1, y2, y3, c0, c1, c2, c3, e0, e1, e2, e3, hz2, hk0⟩ := h
  have hn : ∀ g, g < w.heap.size + 2 → some g ≠ row := fun g hg e => by have := hr g e.symm; omega
  have far := fun (g j : Nat) (hg : g < w.heap.size + 2) => k.cell_far ⟨g, j, none⟩ (by simp only; omega) (hn g hg)
  have ffar := fun (g j : Nat) (hg : g < w.heap.size + 2) => k.frozen_far ⟨g, j, none⟩ (by simp only; omega) (hn g hg)
  refine ⟨(far _ _ (by omega)).trans y0, (far _ _ (by omega)).trans y1, (far _ _ (by omega)).trans y2, (far _ _ (by omega)).trans y3,
    cellOr_some (by rw [far _ _ (by omega), c0]; rfl), cellOr_some (by rw [far _ _ (by omega), c1]; rfl), cellOr_some (by rw [far _ _ (by omega), c2]; rfl), cellOr_some (by rw [far _ _ (by omega), c3]; rfl),
    (ffar _ _ (by omega)).trans e0, (ffar _ _ (by omega)).trans e1, (ffar _ _ (by omega)).trans e2, (ffar _ _ (by omega)).trans e3, Nat.le_trans hz2 k.size, hk0.grown k (by omega) (fun j hj => by have := hr j hj; omega)⟩

theorem held_set {w W : World} {a0 a1 a2 a3 v0 v1 v2 v3 : Value} {t : TypeId}
    (h : W.cell? ⟨w.heap.size, 0, none⟩ = some (a0) ∧ W.cell? ⟨w.heap.size, 1, none⟩ = some (a1) ∧ W.cell? ⟨w.heap.size, 2, none⟩ = some (a2) ∧ W.cell? ⟨w.heap.size, 3, none⟩ = some (a3) ∧ W.cell? ⟨w.heap.size + 1, 0, none⟩ = some (cellOr W ⟨w.heap.size + 1, 0, none⟩) ∧ W.cell? ⟨w.heap.size + 1, 1, none⟩ = some (cellOr W ⟨w.heap.size + 1, 1, none⟩) ∧ W.cell? ⟨w.heap.size + 1, 2, none⟩ = some (cellOr W ⟨w.heap.size + 1, 2, none⟩) ∧ W.cell? ⟨w.heap.size + 1, 3, none⟩ = some (cellOr W ⟨w.heap.size + 1, 3, none⟩) ∧ W.frozen? ⟨w.heap.size + 1, 0, none⟩ = false ∧ W.frozen? ⟨w.heap.size + 1, 1, none⟩ = false ∧ W.frozen? ⟨w.heap.size + 1, 2, none⟩ = false ∧ W.frozen? ⟨w.heap.size + 1, 3, none⟩ = false ∧ w.heap.size + 2 ≤ W.heap.size ∧ Below (w.heap.size + 1) (w.alloc (.cells #[a0, a1, a2, a3] t)) W) :
    ((((W.setCell ⟨w.heap.size + 1, 0, none⟩ v0).setCell ⟨w.heap.size + 1, 1, none⟩ v1).setCell ⟨w.heap.size + 1, 2, none⟩ v2).setCell ⟨w.heap.size + 1, 3, none⟩ v3).cell? ⟨w.heap.size, 0, none⟩ = some (a0) ∧ ((((W.setCell ⟨w.heap.size + 1, 0, none⟩ v0).setCell ⟨w.heap.size + 1, 1, none⟩ v1).setCell ⟨w.heap.size + 1, 2, none⟩ v2).setCell ⟨w.heap.size + 1, 3, none⟩ v3).cell? ⟨w.heap.size, 1, none⟩ = some (a1) ∧ ((((W.setCell ⟨w.heap.size + 1, 0, none⟩ v0).setCell ⟨w.heap.size + 1, 1, none⟩ v1).setCell ⟨w.heap.size + 1, 2, none⟩ v2).setCell ⟨w.heap.size + 1, 3, none⟩ v3).cell? ⟨w.heap.size, 2, none⟩ = some (a2) ∧ ((((W.setCell ⟨w.heap.size + 1, 0, none⟩ v0).setCell ⟨w.heap.size + 1, 1, none⟩ v1).setCell ⟨w.heap.size + 1, 2, none⟩ v2).setCell ⟨w.heap.size + 1, 3, none⟩ v3).cell? ⟨w.heap.size, 3, none⟩ = some (a3) ∧ ((((W.setCell ⟨w.heap.size + 1, 0, none⟩ v0).setCell ⟨w.heap.size + 1, 1, none⟩ v1).setCell ⟨w.heap.size + 1, 2, none⟩ v2).setCell ⟨w.heap.size + 1, 3, none⟩ v3).cell? ⟨w.heap.size + 1, 0, none⟩ = some (cellOr ((((W.setCell ⟨w.heap.size + 1, 0, none⟩ v0).setCell ⟨w.heap.size + 1, 1, none⟩ v1).setCell ⟨w.heap.size + 1, 2, none⟩ v2).setCell ⟨w.heap.size + 1, 3, none⟩ v3) ⟨w.heap.size + 1, 0, none⟩) ∧ ((((W.setCell ⟨w.heap.size + 1, 0, none⟩ v0).setCell ⟨w.heap.size + 1, 1, none⟩ v1).setCell ⟨w.heap.size + 1, 2, none⟩ v2).setCell ⟨w.heap.size + 1, 3, none⟩ v3).cell? ⟨w.heap.size + 1, 1, none⟩ = some (cellOr ((((W.setCell ⟨w.heap.size + 1, 0, none⟩ v0).setCell ⟨w.heap.size + 1, 1, none⟩ v1).setCell ⟨w.heap.size + 1, 2, none⟩ v2).setCell ⟨w.heap.size + 1, 3, none⟩ v3) ⟨w.heap.size + 1, 1, none⟩) ∧ ((((W.setCell ⟨w.heap.size + 1, 0, none⟩ v0).setCell ⟨w.heap.size + 1, 1, none⟩ v1).setCell ⟨w.heap.size + 1, 2, none⟩ v2).setCell ⟨w.heap.size + 1, 3, none⟩ v3).cell? ⟨w.heap.size + 1, 2, none⟩ = some (cellOr ((((W.setCell ⟨w.heap.size + 1, 0, none⟩ v0).setCell ⟨w.heap.size + 1, 1, none⟩ v1).setCell ⟨w.heap.size + 1, 2, none⟩ v2).setCell ⟨w.heap.size + 1, 3, none⟩ v3) ⟨w.heap.size + 1, 2, none⟩) ∧ ((((W.setCell ⟨w.heap.size + 1, 0, none⟩ v0).setCell ⟨w.heap.size + 1, 1, none⟩ v1).setCell ⟨w.heap.size + 1, 2, none⟩ v2).setCell ⟨w.heap.size + 1, 3, none⟩ v3).cell? ⟨w.heap.size + 1, 3, none⟩ = some (cellOr ((((W.setCell ⟨w.heap.size + 1, 0, none⟩ v0).setCell ⟨w.heap.size + 1, 1, none⟩ v1).setCell ⟨w.heap.size + 1, 2, none⟩ v2).setCell ⟨w.heap.size + 1, 3, none⟩ v3) ⟨w.heap.size + 1, 3, none⟩) ∧ ((((W.setCell ⟨w.heap.size + 1, 0, none⟩ v0).setCell ⟨w.heap.size + 1, 1, none⟩ v1).setCell ⟨w.heap.size + 1, 2, none⟩ v2).setCell ⟨w.heap.size + 1, 3, none⟩ v3).frozen? ⟨w.heap.size + 1, 0, none⟩ = false ∧ ((((W.setCell ⟨w.heap.size + 1, 0, none⟩ v0).setCell ⟨w.heap.size + 1, 1, none⟩ v1).setCell ⟨w.heap.size + 1, 2, none⟩ v2).setCell ⟨w.heap.size + 1, 3, none⟩ v3).frozen? ⟨w.heap.size + 1, 1, none⟩ = false ∧ ((((W.setCell ⟨w.heap.size + 1, 0, none⟩ v0).setCell ⟨w.heap.size + 1, 1, none⟩ v1).setCell ⟨w.heap.size + 1, 2, none⟩ v2).setCell ⟨w.heap.size + 1, 3, none⟩ v3).frozen? ⟨w.heap.size + 1, 2, none⟩ = false ∧ ((((W.setCell ⟨w.heap.size + 1, 0, none⟩ v0).setCell ⟨w.heap.size + 1, 1, none⟩ v1).setCell ⟨w.heap.size + 1, 2, none⟩ v2).setCell ⟨w.heap.size + 1, 3, none⟩ v3).frozen? ⟨w.heap.size + 1, 3, none⟩ = false ∧ w.heap.size + 2 ≤ ((((W.setCell ⟨w.heap.size + 1, 0, none⟩ v0).setCell ⟨w.heap.size + 1, 1, none⟩ v1).setCell ⟨w.heap.size + 1, 2, none⟩ v2).setCell ⟨w.heap.size + 1, 3, none⟩ v3).heap.size ∧ Below (w.heap.size + 1) (w.alloc (.cells #[a0, a1, a2, a3] t)) ((((W.setCell ⟨w.heap.size + 1, 0, none⟩ v0).setCell ⟨w.heap.size + 1, 1, none⟩ v1).setCell ⟨w.heap.size + 1, 2, none⟩ v2).setCell ⟨w.heap.size + 1, 3, none⟩ v3) := by
  obtain ⟨y0, y1, y2, y3, c0, c1, c2, c3, e0, e1, e2, e3, hz2, hk0⟩ := h
  refine ⟨(cell_set4 (by omega) _ _ _ _).trans y0, (cell_set4 (by omega) _ _ _ _).trans y1, (cell_set4 (by omega) _ _ _ _).trans y2, (cell_set4 (by omega) _ _ _ _).trans y3,
    cellOr_set4 c0, cellOr_set4 c1, cellOr_set4 c2, cellOr_set4 c3, ?_, ?_, ?_, ?_, ?_, below_set4 hk0 _ (Nat.le_refl _) _ _ _ _⟩
  · simp only [World.frozen?_setCell]; exact e0
  · simp only [World.frozen?_setCell]; exact e1
  · simp only [World.frozen?_setCell]; exact e2
  · simp only [World.frozen?_setCell]; exact e3
  · simp only [World.size_setCell]; exact hz2
end Go.Proofs.YtapgjjfndbfnpaaDoor.Vw
