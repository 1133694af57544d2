/-
  The walk of bucketlineref18.With. Printed by gen_vwref4.py of this claim's writer.
-/
import Derived.Test.YtigojackdkaanaaVwRef3
import Derived.Test.YtigojackdkaanaaVwLane
import Derived.Test.YtigojackdkaanaaVwEmpty
import Derived.Test.YtigojackdkaanaaVwOf
import Derived.IntWalk
namespace Go.Proofs.Ytigojackdkaanaa
open Go.RowKit

theorem held_set_hi {w W : World} {a0 a1 a2 a3 v0 v1 v2 v3 : Value} {t : TypeId}
    (h : W.cell? ⟨w.heap.size, 0, none⟩ = some (a0) ∧ W.cell? ⟨w.heap.size, 1, none⟩ = some (a1) ∧ W.cell? ⟨w.heap.size, 2, none⟩ = some (a2) ∧ W.cell? ⟨w.heap.size, 3, none⟩ = some (a3) ∧ W.cell? ⟨w.heap.size + 1, 0, none⟩ = some (cellOr W ⟨w.heap.size + 1, 0, none⟩) ∧ W.cell? ⟨w.heap.size + 1, 1, none⟩ = some (cellOr W ⟨w.heap.size + 1, 1, none⟩) ∧ W.cell? ⟨w.heap.size + 1, 2, none⟩ = some (cellOr W ⟨w.heap.size + 1, 2, none⟩) ∧ W.cell? ⟨w.heap.size + 1, 3, none⟩ = some (cellOr W ⟨w.heap.size + 1, 3, none⟩) ∧ W.frozen? ⟨w.heap.size + 1, 0, none⟩ = false ∧ W.frozen? ⟨w.heap.size + 1, 1, none⟩ = false ∧ W.frozen? ⟨w.heap.size + 1, 2, none⟩ = false ∧ W.frozen? ⟨w.heap.size + 1, 3, none⟩ = false ∧ w.heap.size + 2 ≤ W.heap.size ∧ Below (w.heap.size + 1) (w.alloc (.cells #[a0, a1, a2, a3] t)) W) (g : Nat) (hg : w.heap.size + 2 ≤ g) :
    ((((W.setCell ⟨g, 0, none⟩ v0).setCell ⟨g, 1, none⟩ v1).setCell ⟨g, 2, none⟩ v2).setCell ⟨g, 3, none⟩ v3).cell? ⟨w.heap.size, 0, none⟩ = some (a0) ∧ ((((W.setCell ⟨g, 0, none⟩ v0).setCell ⟨g, 1, none⟩ v1).setCell ⟨g, 2, none⟩ v2).setCell ⟨g, 3, none⟩ v3).cell? ⟨w.heap.size, 1, none⟩ = some (a1) ∧ ((((W.setCell ⟨g, 0, none⟩ v0).setCell ⟨g, 1, none⟩ v1).setCell ⟨g, 2, none⟩ v2).setCell ⟨g, 3, none⟩ v3).cell? ⟨w.heap.size, 2, none⟩ = some (a2) ∧ ((((W.setCell ⟨g, 0, none⟩ v0).setCell ⟨g, 1, none⟩ v1).setCell ⟨g, 2, none⟩ v2).setCell ⟨g, 3, none⟩ v3).cell? ⟨w.heap.size, 3, none⟩ = some (a3) ∧ ((((W.setCell ⟨g, 0, none⟩ v0).setCell ⟨g, 1, none⟩ v1).setCell ⟨g, 2, none⟩ v2).setCell ⟨g, 3, none⟩ v3).cell? ⟨w.heap.size + 1, 0, none⟩ = some (cellOr ((((W.setCell ⟨g, 0, none⟩ v0).setCell ⟨g, 1, none⟩ v1).setCell ⟨g, 2, none⟩ v2).setCell ⟨g, 3, none⟩ v3) ⟨w.heap.size + 1, 0, none⟩) ∧ ((((W.setCell ⟨g, 0, none⟩ v0).setCell ⟨g, 1, none⟩ v1).setCell ⟨g, 2, none⟩ v2).setCell ⟨g, 3, none⟩ v3).cell? ⟨w.heap.size + 1, 1, none⟩ = some (cellOr ((((W.setCell ⟨g, 0, none⟩ v0).setCell ⟨g, 1, none⟩ v1).setCell ⟨g, 2, none⟩ v2).setCell ⟨g, 3, none⟩ v3) ⟨w.heap.size + 1, 1, none⟩) ∧ ((((W.setCell ⟨g, 0, none⟩ v0).setCell ⟨g, 1, none⟩ v1).setCell ⟨g, 2, none⟩ v2).setCell ⟨g, 3, none⟩ v3).cell? ⟨w.heap.size + 1, 2, none⟩ = some (cellOr ((((W.setCell ⟨g, 0, none⟩ v0).setCell ⟨g, 1, none⟩ v1).setCell ⟨g, 2, none⟩ v2).setCell ⟨g, 3, none⟩ v3) ⟨w.heap.size + 1, 2, none⟩) ∧ ((((W.setCell ⟨g, 0, none⟩ v0).setCell ⟨g, 1, none⟩ v1).setCell ⟨g, 2, none⟩ v2).setCell ⟨g, 3, none⟩ v3).cell? ⟨w.heap.size + 1, 3, none⟩ = some (cellOr ((((W.setCell ⟨g, 0, none⟩ v0).setCell ⟨g, 1, none⟩ v1).setCell ⟨g, 2, none⟩ v2).setCell ⟨g, 3, none⟩ v3) ⟨w.heap.size + 1, 3, none⟩) ∧ ((((W.setCell ⟨g, 0, none⟩ v0).setCell ⟨g, 1, none⟩ v1).setCell ⟨g, 2, none⟩ v2).setCell ⟨g, 3, none⟩ v3).frozen? ⟨w.heap.size + 1, 0, none⟩ = false ∧ ((((W.setCell ⟨g, 0, none⟩ v0).setCell ⟨g, 1, none⟩ v1).setCell ⟨g, 2, none⟩ v2).setCell ⟨g, 3, none⟩ v3).frozen? ⟨w.heap.size + 1, 1, none⟩ = false ∧ ((((W.setCell ⟨g, 0, none⟩ v0).setCell ⟨g, 1, none⟩ v1).setCell ⟨g, 2, none⟩ v2).setCell ⟨g, 3, none⟩ v3).frozen? ⟨w.heap.size + 1, 2, none⟩ = false ∧ ((((W.setCell ⟨g, 0, none⟩ v0).setCell ⟨g, 1, none⟩ v1).setCell ⟨g, 2, none⟩ v2).setCell ⟨g, 3, none⟩ v3).frozen? ⟨w.heap.size + 1, 3, none⟩ = false ∧ w.heap.size + 2 ≤ ((((W.setCell ⟨g, 0, none⟩ v0).setCell ⟨g, 1, none⟩ v1).setCell ⟨g, 2, none⟩ v2).setCell ⟨g, 3, none⟩ v3).heap.size ∧ Below (w.heap.size + 1) (w.alloc (.cells #[a0, a1, a2, a3] t)) ((((W.setCell ⟨g, 0, none⟩ v0).setCell ⟨g, 1, none⟩ v1).setCell ⟨g, 2, none⟩ v2).setCell ⟨g, 3, none⟩ v3) := by
  obtain ⟨y0, y1, y2, y3, c0, c1, c2, c3, e0, e1, e2, e3, hz2, hk0⟩ := h
  refine ⟨(cell_set4 (by omega) _ _ _ _).trans y0, (cell_set4 (by omega) _ _ _ _).trans y1, (cell_set4 (by omega) _ _ _ _).trans y2, (cell_set4 (by omega) _ _ _ _).trans y3,
    cellOr_set4 c0, cellOr_set4 c1, cellOr_set4 c2, cellOr_set4 c3, ?_, ?_, ?_, ?_, ?_, below_set4 hk0 _ (by omega) _ _ _ _⟩
  · simp only [World.frozen?_setCell]; exact e0
  · simp only [World.frozen?_setCell]; exact e1
  · simp only [World.frozen?_setCell]; exact e2
  · simp only [World.frozen?_setCell]; exact e3
  · simp only [World.size_setCell]; exact hz2
/-- What is held of a box of four that the region makes: it lies apart from the row that waits, and from the rows that are done. -/
structure ZBox (w : World) (B0 : Nat) (z : Bool) (x9 pv r1 r2 r3 : Value) (d1 d2 d3 : Bool) : Prop where
  here : z = true → ∃ g, x9 = .pointer (some ⟨g, 0, none⟩) ∧ B0 ≤ g ∧ g < w.heap.size ∧ w.heap[g]? = some (.cells #[.int .i64 0, .slice none 0 0, .slice none 0 0, .slice none 0 0] 41) ∧ pv.ownBlock ≠ some g ∧ (d1 = true → r1.ownBlock ≠ some g) ∧ (d2 = true → r2.ownBlock ≠ some g) ∧ (d3 = true → r3.ownBlock ≠ some g)

section
variable {w w' : World} {B0 : Nat} {z : Bool} {x9 pv pv' r1 r2 r3 : Value} {d1 d2 d3 : Bool}
theorem ZBox.below (h : ZBox w B0 z x9 pv r1 r2 r3 d1 d2 d3) (hb : Below w.heap.size w w') (hp : ∀ j, pv'.ownBlock = some j → w.heap.size ≤ j) : ZBox w' B0 z x9 pv' r1 r2 r3 d1 d2 d3 where
  here := fun hz => by
    obtain ⟨g, rfl, h1, h2, h3, h4, h5⟩ := h.here hz
    exact ⟨g, rfl, h1, Nat.lt_of_lt_of_le h2 hb.size, (hb.block g h2).trans h3, fun e => by have := hp g e; omega, h5⟩
theorem ZBox.alloc (h : ZBox w B0 z x9 pv r1 r2 r3 d1 d2 d3) (o : Obj) : ZBox (w.alloc o) B0 z x9 pv r1 r2 r3 d1 d2 d3 where
  here := fun hz => by
    obtain ⟨g, rfl, h1, h2, h3, h4, h5⟩ := h.here hz
    exact ⟨g, rfl, h1, by rw [World.size_alloc]; omega, (((Below.refl w.heap.size w).alloc (Nat.le_refl _) o).block g h2).trans h3, h4, h5⟩
theorem ZBox.mk' (hB : B0 ≤ w.heap.size) (hp : ∀ j, pv.ownBlock = some j → j < w.heap.size) (h1 : d1 = true → ∀ j, r1.ownBlock = some j → j < w.heap.size) (h2 : d2 = true → ∀ j, r2.ownBlock = some j → j < w.heap.size) (h3 : d3 = true → ∀ j, r3.ownBlock = some j → j < w.heap.size) :
    ZBox (w.alloc (.cells #[.int .i64 0, .slice none 0 0, .slice none 0 0, .slice none 0 0] 41)) B0 true (.pointer (some ⟨w.heap.size, 0, none⟩)) pv r1 r2 r3 d1 d2 d3 where
  here := fun _ => ⟨w.heap.size, rfl, hB, by rw [World.size_alloc]; omega, heap_alloc_new w _, fun e => by have := hp _ e; omega, fun d e => by have := h1 d _ e; omega, fun d e => by have := h2 d _ e; omega, fun d e => by have := h3 d _ e; omega⟩
theorem ZBox.keep (h : ZBox w B0 z x9 pv r1 r2 r3 d1 d2 d3) (hg : w.grownBy w' pv.ownBlock) : z = true → ∃ g, x9 = .pointer (some ⟨g, 0, none⟩) ∧ B0 ≤ g ∧ g < w.heap.size ∧ g < w'.heap.size ∧ w'.heap[g]? = some (.cells #[.int .i64 0, .slice none 0 0, .slice none 0 0, .slice none 0 0] 41) ∧ pv.ownBlock ≠ some g ∧ (d1 = true → r1.ownBlock ≠ some g) ∧ (d2 = true → r2.ownBlock ≠ some g) ∧ (d3 = true → r3.ownBlock ≠ some g) := fun hz => by
  obtain ⟨g, rfl, h1, h2, h3, h4, h5⟩ := h.here hz
  exact ⟨g, rfl, h1, h2, Nat.lt_of_lt_of_le h2 hg.size, (hg.block g h2 (fun e => h4 e.symm)).trans h3, h4, h5⟩
theorem new_apart {pv : Value} {w : World} {g gg n cap : Nat} (h : pv.ownBlock ≠ some g) (hg : g < w.heap.size) (hat : pv.ownBlock = some gg ∨ gg = w.heap.size) : (Value.slice (some ⟨gg, 0, none⟩) n cap).ownBlock ≠ some g := by
  intro e
  simp only [Value.ownBlock, Option.some.injEq] at e
  subst e
  rcases hat with h1 | h1
  · exact h h1
  · omega
theorem ZBox.grow1 {gg n cap : Nat} (h : ZBox w B0 z x9 pv r1 r2 r3 d1 d2 d3) (hg : w.grownBy w' pv.ownBlock) (hat : pv.ownBlock = some gg ∨ gg = w.heap.size) : ZBox w' B0 z x9 (.slice none 0 0) (.slice (some ⟨gg, 0, none⟩) n cap) r2 r3 true d2 d3 where
  here := fun hz => by
    obtain ⟨g, rfl, h1, h2, h2', h3, h4, h5, h6, h7⟩ := h.keep hg hz
    exact ⟨g, rfl, h1, h2', h3, by simp [Value.ownBlock], fun _ => new_apart h4 h2 hat, h6, h7⟩
theorem ZBox.grow2 {gg n cap : Nat} (h : ZBox w B0 z x9 pv r1 r2 r3 d1 d2 d3) (hg : w.grownBy w' pv.ownBlock) (hat : pv.ownBlock = some gg ∨ gg = w.heap.size) : ZBox w' B0 z x9 (.slice none 0 0) r1 (.slice (some ⟨gg, 0, none⟩) n cap) r3 d1 true d3 where
  here := fun hz => by
    obtain ⟨g, rfl, h1, h2, h2', h3, h4, h5, h6, h7⟩ := h.keep hg hz
    exact ⟨g, rfl, h1, h2', h3, by simp [Value.ownBlock], h5, fun _ => new_apart h4 h2 hat, h7⟩
theorem ZBox.grow3 {gg n cap : Nat} (h : ZBox w B0 z x9 pv r1 r2 r3 d1 d2 d3) (hg : w.grownBy w' pv.ownBlock) (hat : pv.ownBlock = some gg ∨ gg = w.heap.size) : ZBox w' B0 z x9 (.slice none 0 0) r1 r2 (.slice (some ⟨gg, 0, none⟩) n cap) d1 d2 true where
  here := fun hz => by
    obtain ⟨g, rfl, h1, h2, h2', h3, h4, h5, h6, h7⟩ := h.keep hg hz
    exact ⟨g, rfl, h1, h2', h3, by simp [Value.ownBlock], h5, h6, fun _ => new_apart h4 h2 hat⟩
end


set_option maxRecDepth 100000 in
set_option maxHeartbeats 6400000 in
theorem refWith_any (B : Nat) (v : Value) (V : VW) (x b : Int) (A : VW) (c : Nat) (hA : withV V x b = (A, c)) (w : World) (h : IsView B w v V) (hB : B ≤ w.heap.size) (hsm : SmallV V) (hx64 : I64 x) (hb64 : I64 b) :
    Calls Try.prog 37 #[v, .int .i64 x, .int .i64 b] w fun e w' => ∃ va, e = .returned (.tuple #[va, .int .i64 c]) ∧ IsView w'.heap.size w' va A ∧ Below w.heap.size w w' := by
  have hv := Lib.hid h
  obtain ⟨he, cc, s, bt, rfl, h1, h2, h3⟩ := h
  have H1 := Lib.hid h1
  have H2 := Lib.hid h2
  have H3 := Lib.hid h3
  obtain ⟨a1, k1, rfl⟩ := h1.form
  obtain ⟨a2, k2, rfl⟩ := h2.form
  obtain ⟨a3, k3, rfl⟩ := h3.form
  have hs1 := hsm.1
  have hC1 := fun (p : Int) (hp : placeV V x = p) (w1 : World) (hb1 : Below w.heap.size w w1) => refPlace_any B _ V x p hp w1 (hv.out.keep hb1 hB) (Nat.le_trans hB hb1.size) hsm
  have C2 := Lib.hid (fun (b' : Bool) (hb : b' = rightB V) (w1 : World) (hb1 : Below w.heap.size w w1) => refRight_any B _ V w1 (hv.out.keep hb1 hB) (Nat.le_trans hB hb1.size) hsm b' hb)
  clear h1 h2 h3
  by_cases c1 : rightB V = false ∨ x < 1 ∨ 100 < x ∨ b < 0 ∨ 274877906944 < b
  · obtain ⟨rfl, rfl⟩ : zeroV = A ∧ 1 = c := by
      rw [withV, if_pos c1] at hA
      injection hA with e1 e2
      exact ⟨e1, e2⟩
    clear hA hC1
    cases hr : rightB V with
    | false =>
      have C2' := Lib.hid (C2.out false hr.symm)
      clear c1 hr C2
      go_enter Try.func37, Try.ntmps37
      go_wp2_with fail
      refine (C2'.out _ ?_).mono ?_
      · exact below_two _ _
      rintro e w1 ⟨rfl, hb1⟩
      have hb12 : Below (w.heap.size + 2) _ w1 := hb1.mono (by simp)
      obtain ⟨y0, y1, y2, y3⟩ := box_cells hb12
      obtain ⟨z0, z1, z2, z3⟩ := res_cells hb12
      have f0 := res_frozen hb12 0
      have f1 := res_frozen hb12 1
      have f2 := res_frozen hb12 2
      have f3 := res_frozen hb12 3
      go_wp2_with fail
      all_goals
        (try simp only [Exit.inBlock, Exit.then])
        first
          | (exfalso; omega)
          | (refine bodyPost_ret (ret_cell4 rfl _ _ _ _ _ _ _ _ _ _ _ _ _ (by rfl) (res_block hb12) Try.underlying41 rfl rvinfo) rfl ?_
             refine ⟨_, rfl, view_nil _ _, below_set4 (below_two' hb12) _ (by omega) _ _ _ _⟩)
    | true =>
      have C2' := Lib.hid (C2.out true hr.symm)
      rw [hr] at c1
      have c1' : x < 1 ∨ 100 < x ∨ b < 0 ∨ 274877906944 < b := by rcases c1 with h | h; cases h; exact h
      clear c1 hr C2
      by_cases d1 : x < 1
      · go_enter Try.func37, Try.ntmps37
        go_wp2_with fail
        refine (C2'.out _ ?_).mono ?_
        · exact below_two _ _
        rintro e w1 ⟨rfl, hb1⟩
        have hb12 : Below (w.heap.size + 2) _ w1 := hb1.mono (by simp)
        obtain ⟨y0, y1, y2, y3⟩ := box_cells hb12
        obtain ⟨z0, z1, z2, z3⟩ := res_cells hb12
        have f0 := res_frozen hb12 0
        have f1 := res_frozen hb12 1
        have f2 := res_frozen hb12 2
        have f3 := res_frozen hb12 3
        go_wp2_with fail
        all_goals
          (try simp only [Exit.inBlock, Exit.then])
          first
            | (exfalso; omega)
            | (refine bodyPost_ret (ret_cell4 rfl _ _ _ _ _ _ _ _ _ _ _ _ _ (by rfl) (res_block hb12) Try.underlying41 rfl rvinfo) rfl ?_
               refine ⟨_, rfl, view_nil _ _, below_set4 (below_two' hb12) _ (by omega) _ _ _ _⟩)
      · by_cases d2 : 100 < x
        · go_enter Try.func37, Try.ntmps37
          go_wp2_with fail
          refine (C2'.out _ ?_).mono ?_
          · exact below_two _ _
          rintro e w1 ⟨rfl, hb1⟩
          have hb12 : Below (w.heap.size + 2) _ w1 := hb1.mono (by simp)
          obtain ⟨y0, y1, y2, y3⟩ := box_cells hb12
          obtain ⟨z0, z1, z2, z3⟩ := res_cells hb12
          have f0 := res_frozen hb12 0
          have f1 := res_frozen hb12 1
          have f2 := res_frozen hb12 2
          have f3 := res_frozen hb12 3
          go_wp2_with fail
          all_goals
            (try simp only [Exit.inBlock, Exit.then])
            first
              | (exfalso; omega)
              | (refine bodyPost_ret (ret_cell4 rfl _ _ _ _ _ _ _ _ _ _ _ _ _ (by rfl) (res_block hb12) Try.underlying41 rfl rvinfo) rfl ?_
                 refine ⟨_, rfl, view_nil _ _, below_set4 (below_two' hb12) _ (by omega) _ _ _ _⟩)
        · by_cases d3 : b < 0
          · go_enter Try.func37, Try.ntmps37
            go_wp2_with fail
            refine (C2'.out _ ?_).mono ?_
            · exact below_two _ _
            rintro e w1 ⟨rfl, hb1⟩
            have hb12 : Below (w.heap.size + 2) _ w1 := hb1.mono (by simp)
            obtain ⟨y0, y1, y2, y3⟩ := box_cells hb12
            obtain ⟨z0, z1, z2, z3⟩ := res_cells hb12
            have f0 := res_frozen hb12 0
            have f1 := res_frozen hb12 1
            have f2 := res_frozen hb12 2
            have f3 := res_frozen hb12 3
            go_wp2_with fail
            all_goals
              (try simp only [Exit.inBlock, Exit.then])
              first
                | (exfalso; omega)
                | (refine bodyPost_ret (ret_cell4 rfl _ _ _ _ _ _ _ _ _ _ _ _ _ (by rfl) (res_block hb12) Try.underlying41 rfl rvinfo) rfl ?_
                   refine ⟨_, rfl, view_nil _ _, below_set4 (below_two' hb12) _ (by omega) _ _ _ _⟩)
          · have d4 : 274877906944 < b := by omega
            clear c1'
            go_enter Try.func37, Try.ntmps37
            go_wp2_with fail
            refine (C2'.out _ ?_).mono ?_
            · exact below_two _ _
            rintro e w1 ⟨rfl, hb1⟩
            have hb12 : Below (w.heap.size + 2) _ w1 := hb1.mono (by simp)
            obtain ⟨y0, y1, y2, y3⟩ := box_cells hb12
            obtain ⟨z0, z1, z2, z3⟩ := res_cells hb12
            have f0 := res_frozen hb12 0
            have f1 := res_frozen hb12 1
            have f2 := res_frozen hb12 2
            have f3 := res_frozen hb12 3
            go_wp2_with fail
            all_goals
              (try simp only [Exit.inBlock, Exit.then])
              first
                | (exfalso; omega)
                | (refine bodyPost_ret (ret_cell4 rfl _ _ _ _ _ _ _ _ _ _ _ _ _ (by rfl) (res_block hb12) Try.underlying41 rfl rvinfo) rfl ?_
                   refine ⟨_, rfl, view_nil _ _, below_set4 (below_two' hb12) _ (by omega) _ _ _ _⟩)
  · have hr : rightB V = true := by
      cases hr : rightB V with
      | true => rfl
      | false => exact absurd (.inl hr) c1
    have hR := (rightB_iff V).1 hr
    have d1 : ¬ x < 1 := fun h => c1 (.inr (.inl h))
    have d2 : ¬ 100 < x := fun h => c1 (.inr (.inr (.inl h)))
    have d3 : ¬ b < 0 := fun h => c1 (.inr (.inr (.inr (.inl h))))
    have d4 : ¬ 274877906944 < b := fun h => c1 (.inr (.inr (.inr (.inr h))))
    have C2' := Lib.hid (C2.out true hr.symm)
    rw [withV, if_neg c1] at hA
    clear c1 C2 hr
    rcases placeV_spec V x with ⟨hp, hno⟩ | ⟨_, i, hi, hp, _⟩
    · have C1 := Lib.hid (hC1 _ hp)
      have hno' := Lib.hid (hno hR)
      rw [if_neg (by omega)] at hA
      clear hC1 hp hno
      by_cases hn6 : V.chain.length = 6 ∨ V.epoch = 274877906944
      · obtain ⟨rfl, rfl⟩ : zeroV = A ∧ 4 = c := by
          rw [if_pos hn6] at hA
          injection hA with e1 e2
          exact ⟨e1, e2⟩
        clear hA
        by_cases hn7 : V.chain.length = 6
        · have g2 : ((V.chain.length : Int) == 6) = true := by rw [hn7]; rfl
          clear hn6 hn7
          go_enter Try.func37, Try.ntmps37
          go_wp2_with fail
          refine (C2'.out _ ?_).mono ?_
          · exact below_two _ _
          rintro e w1 ⟨rfl, hb1⟩
          have hb12 : Below (w.heap.size + 2) _ w1 := hb1.mono (by simp)
          obtain ⟨y0, y1, y2, y3⟩ := box_cells hb12
          obtain ⟨z0, z1, z2, z3⟩ := res_cells hb12
          have f0 := res_frozen hb12 0
          have f1 := res_frozen hb12 1
          have f2 := res_frozen hb12 2
          have f3 := res_frozen hb12 3
          go_wp2_with fail
          refine (C1.out _ (below_two' hb12)).mono ?_
          rintro e w2 ⟨rfl, hb2⟩
          replace hb12 := below_more hb12 (size_two hb12) hb2
          obtain ⟨y0, y1, y2, y3⟩ := box_cells hb12
          obtain ⟨z0, z1, z2, z3⟩ := res_cells hb12
          have f0 := res_frozen hb12 0
          have f1 := res_frozen hb12 1
          have f2 := res_frozen hb12 2
          have f3 := res_frozen hb12 3
          go_wp2_with fail
          all_goals
            (try simp only [Exit.inBlock, Exit.then])
            first
              | (exfalso; omega)
              | (refine bodyPost_ret (ret_cell4 rfl _ _ _ _ _ _ _ _ _ _ _ _ _ (by rfl) (res_block hb12) Try.underlying41 rfl rvinfo) rfl ?_
                 refine ⟨_, rfl, view_nil _ _, below_set4 (below_two' hb12) _ (by omega) _ _ _ _⟩)
        · have g2 : ((V.chain.length : Int) == 6) = false := by rw [beq_eq_false_iff_ne]; omega
          have g3 : (V.epoch == 274877906944) = true := by rw [beq_iff_eq]; omega
          clear hn6
          go_enter Try.func37, Try.ntmps37
          go_wp2_with fail
          refine (C2'.out _ ?_).mono ?_
          · exact below_two _ _
          rintro e w1 ⟨rfl, hb1⟩
          have hb12 : Below (w.heap.size + 2) _ w1 := hb1.mono (by simp)
          obtain ⟨y0, y1, y2, y3⟩ := box_cells hb12
          obtain ⟨z0, z1, z2, z3⟩ := res_cells hb12
          have f0 := res_frozen hb12 0
          have f1 := res_frozen hb12 1
          have f2 := res_frozen hb12 2
          have f3 := res_frozen hb12 3
          go_wp2_with fail
          refine (C1.out _ (below_two' hb12)).mono ?_
          rintro e w2 ⟨rfl, hb2⟩
          replace hb12 := below_more hb12 (size_two hb12) hb2
          obtain ⟨y0, y1, y2, y3⟩ := box_cells hb12
          obtain ⟨z0, z1, z2, z3⟩ := res_cells hb12
          have f0 := res_frozen hb12 0
          have f1 := res_frozen hb12 1
          have f2 := res_frozen hb12 2
          have f3 := res_frozen hb12 3
          go_wp2_with fail
          all_goals
            (try simp only [Exit.inBlock, Exit.then])
            first
              | (exfalso; omega)
              | (refine bodyPost_ret (ret_cell4 rfl _ _ _ _ _ _ _ _ _ _ _ _ _ (by rfl) (res_block hb12) Try.underlying41 rfl rvinfo) rfl ?_
                 refine ⟨_, rfl, view_nil _ _, below_set4 (below_two' hb12) _ (by omega) _ _ _ _⟩)
      · have g2 : ((V.chain.length : Int) == 6) = false := by rw [beq_eq_false_iff_ne]; omega
        have g3 : (V.epoch == 274877906944) = false := by rw [beq_eq_false_iff_ne]; omega
        have g4 : 1 ≤ V.epoch := hR.e1
        have g5 : V.epoch ≤ 274877906944 := hR.e2
        have gw : IntKind.i64.wrap (V.epoch + 1) = V.epoch + 1 := IntWalk.i64_in _ (by omega)
        obtain ⟨rfl, rfl⟩ : ⟨V.epoch + 1, V.chain ++ [x], V.since ++ [V.epoch + 1], V.boot ++ [b]⟩ = A ∧ 0 = c := by
          rw [if_neg hn6] at hA
          injection hA with e1 e2
          exact ⟨e1, e2⟩
        clear hA
        obtain ⟨i0, hi0, hz0, hz1, hz2⟩ := info_parts iinfo
        go_enter Try.func37, Try.ntmps37
        go_wp2_with fail
        refine (C2'.out _ ?_).mono ?_
        · exact below_two _ _
        rintro e w1 ⟨rfl, hb1⟩
        have hb12 : Below (w.heap.size + 2) _ w1 := hb1.mono (by simp)
        obtain ⟨y0, y1, y2, y3⟩ := box_cells hb12
        obtain ⟨z0, z1, z2, z3⟩ := res_cells hb12
        have f0 := res_frozen hb12 0
        have f1 := res_frozen hb12 1
        have f2 := res_frozen hb12 2
        have f3 := res_frozen hb12 3
        go_wp2_with fail
        refine (C1.out _ (below_two' hb12)).mono ?_
        rintro e w2 ⟨rfl, hb2⟩
        replace hb12 := below_more hb12 (size_two hb12) hb2
        obtain ⟨y0, y1, y2, y3⟩ := box_cells hb12
        obtain ⟨z0, z1, z2, z3⟩ := res_cells hb12
        have f0 := res_frozen hb12 0
        have f1 := res_frozen hb12 1
        have f2 := res_frozen hb12 2
        have f3 := res_frozen hb12 3
        go_wp2_with fail
        have hB00 : w.heap.size + 2 ≤ w2.drew.heap.size := size_two hb12.drew
        obtain ⟨B0, hB0⟩ : ∃ n, w2.drew.heap.size = n := ⟨_, rfl⟩
        rw [hB0] at hB00
        have hl1 : V.chain.length ≤ 6 := hR.n2
        have hl1' : 1 ≤ V.chain.length := hR.n1
        have hl2 : V.since.length = V.chain.length := hR.s
        have hl3 : V.boot.length = V.chain.length := hR.b
        have HL2 := Lib.hid hl2
        have HL3 := Lib.hid hl3
        have hl2a : V.since.length ≤ 6 := by omega
        have hl2b : 1 ≤ V.since.length := by omega
        have hl3a : V.boot.length ≤ 6 := by omega
        have hl3b : 1 ≤ V.boot.length := by omega
        clear hl2 hl3
        go_upto_region 8 with fail
        go_cut [9] (fun s9 wx => ∃ gz r1 m1 r2 m2 r3 m3, s9 = .pointer (some ⟨gz, 0, none⟩) ∧ w.heap.size + 2 ≤ gz ∧ wx.heap[gz]? = some (.cells #[.int .i64 (V.epoch + 1), .slice r1 (V.chain.length + 1) m1, .slice r2 (V.since.length + 1) m2, .slice r3 (V.boot.length + 1) m3] 41) ∧ wx.ownsRow B0 3 1 (.slice r1 (V.chain.length + 1) m1) (V.chain.length + 1) (icells (V.chain ++ [x])) ∧ wx.ownsRow B0 3 1 (.slice r2 (V.since.length + 1) m2) (V.since.length + 1) (icells (V.since ++ [(V.epoch + 1)])) ∧ wx.ownsRow B0 3 1 (.slice r3 (V.boot.length + 1) m3) (V.boot.length + 1) (icells (V.boot ++ [b])) ∧ Below (w.heap.size + 2) ((w.alloc (.cells #[.int .i64 V.epoch, .slice a1 V.chain.length k1, .slice a2 V.since.length k2, .slice a3 V.boot.length k3] 41)).alloc (.cells #[.int .i64 0, .slice none 0 0, .slice none 0 0, .slice none 0 0] 41)) wx)
        case first => as_aux_lemma =>
          have hh := held_of hb12.drew
          clear f0 f1 f2 f3 z0 z1 z2 z3
          refine region_begin (S := fun W => W.cell? ⟨w.heap.size, 0, none⟩ = some (.int .i64 V.epoch) ∧ W.cell? ⟨w.heap.size, 1, none⟩ = some (.slice a1 V.chain.length k1) ∧ W.cell? ⟨w.heap.size, 2, none⟩ = some (.slice a2 V.since.length k2) ∧ W.cell? ⟨w.heap.size, 3, none⟩ = some (.slice a3 V.boot.length k3) ∧ W.cell? ⟨w.heap.size + 1, 0, none⟩ = some (cellOr W ⟨w.heap.size + 1, 0, none⟩) ∧ W.cell? ⟨w.heap.size + 1, 1, none⟩ = some (cellOr W ⟨w.heap.size + 1, 1, none⟩) ∧ W.cell? ⟨w.heap.size + 1, 2, none⟩ = some (cellOr W ⟨w.heap.size + 1, 2, none⟩) ∧ W.cell? ⟨w.heap.size + 1, 3, none⟩ = some (cellOr W ⟨w.heap.size + 1, 3, none⟩) ∧ W.frozen? ⟨w.heap.size + 1, 0, none⟩ = false ∧ W.frozen? ⟨w.heap.size + 1, 1, none⟩ = false ∧ W.frozen? ⟨w.heap.size + 1, 2, none⟩ = false ∧ W.frozen? ⟨w.heap.size + 1, 3, none⟩ = false ∧ w.heap.size + 2 ≤ W.heap.size ∧ Below (w.heap.size + 1) (w.alloc (.cells #[.int .i64 V.epoch, .slice a1 V.chain.length k1, .slice a2 V.since.length k2, .slice a3 V.boot.length k3] 41)) W) 29 rfl (by kernel_rfl) hh (fun hHeld => ?_)
          refine wpAnyH_take (i := 0) (oi := ?op0) (v := ?vp0) ?hip0 (by kernel_rfl) (by kernel_rfl) (by kernel_rfl) ?hQp0 ?hyp0 hHeld ?_
          case hip0 => simp only [List.getElem?_toArray, List.getElem?_cons_zero]; rfl
          case hQp0 => exact fun _ _ _ h => h
          case hyp0 => refine Or.inl ⟨by rfl, ?_⟩; intro W hSw; (try dsimp only at hSw); go_simp; try with_reducible rfl
          simp only [Act.put, List.setIfInBounds_toArray, List.set_cons_zero, List.set_cons_succ]
          refine wpAnyH_take (i := 1) (oi := ?op1) (v := ?vp1) ?hip1 (by kernel_rfl) (by kernel_rfl) (by kernel_rfl) ?hQp1 ?hyp1 hHeld ?_
          case hip1 => simp only [List.getElem?_toArray, List.getElem?_cons_zero, List.getElem?_cons_succ]; rfl
          case hQp1 => exact fun _ _ _ h => h
          case hyp1 => refine Or.inl ⟨by rfl, ?_⟩; intro W hSw; (try dsimp only at hSw); go_simp; try with_reducible rfl
          simp only [Act.put, List.setIfInBounds_toArray, List.set_cons_zero, List.set_cons_succ]
          refine wpAnyH_take (i := 2) (oi := ?op2) (v := ?vp2) ?hip2 (by kernel_rfl) (by kernel_rfl) (by kernel_rfl) ?hQp2 ?hyp2 hHeld ?_
          case hip2 => simp only [List.getElem?_toArray, List.getElem?_cons_zero, List.getElem?_cons_succ]; rfl
          case hQp2 => exact fun _ _ _ h => h
          case hyp2 => refine Or.inl ⟨by rfl, ?_⟩; intro W hSw; (try dsimp only at hSw); go_simp; try with_reducible rfl
          simp only [Act.put, List.setIfInBounds_toArray, List.set_cons_zero, List.set_cons_succ]
          refine wpAnyH_take (i := 4) (oi := ?op4) (v := ?vp4) ?hip4 (by kernel_rfl) (by kernel_rfl) (by kernel_rfl) ?hQp4 ?hyp4 hHeld ?_
          case hip4 => simp only [List.getElem?_toArray, List.getElem?_cons_zero, List.getElem?_cons_succ]; rfl
          case hQp4 => exact fun _ _ _ h => h
          case hyp4 => refine Or.inl ⟨by rfl, ?_⟩; intro W hSw; (try dsimp only at hSw); go_simp; try with_reducible rfl
          simp only [Act.put, List.setIfInBounds_toArray, List.set_cons_zero, List.set_cons_succ]
          refine wpAnyH_take (i := 5) (oi := ?op5) (v := ?vp5) ?hip5 (by kernel_rfl) (by kernel_rfl) (by kernel_rfl) ?hQp5 ?hyp5 hHeld ?_
          case hip5 => simp only [List.getElem?_toArray, List.getElem?_cons_zero, List.getElem?_cons_succ]; rfl
          case hQp5 => exact fun _ _ _ h => h
          case hyp5 => refine Or.inl ⟨by rfl, ?_⟩; intro W hSw; (try dsimp only at hSw); go_simp; try with_reducible rfl
          simp only [Act.put, List.setIfInBounds_toArray, List.set_cons_zero, List.set_cons_succ]
          refine wpAnyH_take (i := 7) (oi := ?op7) (v := ?vp7) ?hip7 (by kernel_rfl) (by kernel_rfl) (by kernel_rfl) ?hQp7 ?hyp7 hHeld ?_
          case hip7 => simp only [List.getElem?_toArray, List.getElem?_cons_zero, List.getElem?_cons_succ]; rfl
          case hQp7 => exact fun _ _ _ h => h
          case hyp7 => refine Or.inl ⟨by rfl, ?_⟩; intro W hSw; (try dsimp only at hSw); go_simp; try with_reducible rfl
          simp only [Act.put, List.setIfInBounds_toArray, List.set_cons_zero, List.set_cons_succ]
          refine wpAnyH_take (i := 11) (oi := ?op11) (v := ?vp11) ?hip11 (by kernel_rfl) (by kernel_rfl) (by kernel_rfl) ?hQp11 ?hyp11 hHeld ?_
          case hip11 => simp only [List.getElem?_toArray, List.getElem?_cons_zero, List.getElem?_cons_succ]; rfl
          case hQp11 => exact fun _ _ _ h => h
          case hyp11 => refine Or.inl ⟨by rfl, ?_⟩; intro W hSw; (try dsimp only at hSw); go_simp; try with_reducible rfl
          simp only [Act.put, List.setIfInBounds_toArray, List.set_cons_zero, List.set_cons_succ]
          refine wpAnyH_take (i := 12) (oi := ?op12) (v := ?vp12) ?hip12 (by kernel_rfl) (by kernel_rfl) (by kernel_rfl) ?hQp12 ?hyp12 hHeld ?_
          case hip12 => simp only [List.getElem?_toArray, List.getElem?_cons_zero, List.getElem?_cons_succ]; rfl
          case hQp12 => exact fun _ _ _ h => h
          case hyp12 => refine Or.inl ⟨by rfl, ?_⟩; intro W hSw; (try dsimp only at hSw); go_simp; try with_reducible rfl
          simp only [Act.put, List.setIfInBounds_toArray, List.set_cons_zero, List.set_cons_succ]
          refine wpAnyH_take (i := 14) (oi := ?op14) (v := ?vp14) ?hip14 (by kernel_rfl) (by kernel_rfl) (by kernel_rfl) ?hQp14 ?hyp14 hHeld ?_
          case hip14 => simp only [List.getElem?_toArray, List.getElem?_cons_zero, List.getElem?_cons_succ]; rfl
          case hQp14 => exact fun _ _ _ h => h
          case hyp14 => refine Or.inl ⟨by rfl, ?_⟩; intro W hSw; (try dsimp only at hSw); go_simp; try with_reducible rfl
          simp only [Act.put, List.setIfInBounds_toArray, List.set_cons_zero, List.set_cons_succ]
          refine wpAnyH_take (i := 15) (oi := ?op15) (v := ?vp15) ?hip15 (by kernel_rfl) (by kernel_rfl) (by kernel_rfl) ?hQp15 ?hyp15 hHeld ?_
          case hip15 => simp only [List.getElem?_toArray, List.getElem?_cons_zero, List.getElem?_cons_succ]; rfl
          case hQp15 => exact fun _ _ _ h => h
          case hyp15 => refine Or.inl ⟨by rfl, ?_⟩; intro W hSw; (try dsimp only at hSw); go_simp; try with_reducible rfl
          simp only [Act.put, List.setIfInBounds_toArray, List.set_cons_zero, List.set_cons_succ]
          refine wpAnyH_take (i := 16) (oi := ?op16) (v := ?vp16) ?hip16 (by kernel_rfl) (by kernel_rfl) (by kernel_rfl) ?hQp16 ?hyp16 hHeld ?_
          case hip16 => simp only [List.getElem?_toArray, List.getElem?_cons_zero, List.getElem?_cons_succ]; rfl
          case hQp16 => exact fun _ _ _ h => h
          case hyp16 => refine Or.inl ⟨by rfl, ?_⟩; intro W hSw; (try dsimp only at hSw); go_simp; try with_reducible rfl
          simp only [Act.put, List.setIfInBounds_toArray, List.set_cons_zero, List.set_cons_succ]
          refine wpAnyH_take (i := 20) (oi := ?op20) (v := ?vp20) ?hip20 (by kernel_rfl) (by kernel_rfl) (by kernel_rfl) ?hQp20 ?hyp20 hHeld ?_
          case hip20 => simp only [List.getElem?_toArray, List.getElem?_cons_zero, List.getElem?_cons_succ]; rfl
          case hQp20 => exact fun _ _ _ h => h
          case hyp20 => refine Or.inl ⟨by rfl, ?_⟩; intro W hSw; (try dsimp only at hSw); go_simp; try with_reducible rfl
          simp only [Act.put, List.setIfInBounds_toArray, List.set_cons_zero, List.set_cons_succ]
          refine wpAnyH_take (i := 21) (oi := ?op21) (v := ?vp21) ?hip21 (by kernel_rfl) (by kernel_rfl) (by kernel_rfl) ?hQp21 ?hyp21 hHeld ?_
          case hip21 => simp only [List.getElem?_toArray, List.getElem?_cons_zero, List.getElem?_cons_succ]; rfl
          case hQp21 => exact fun _ _ _ h => h
          case hyp21 => refine Or.inl ⟨by rfl, ?_⟩; intro W hSw; (try dsimp only at hSw); go_simp; try with_reducible rfl
          simp only [Act.put, List.setIfInBounds_toArray, List.set_cons_zero, List.set_cons_succ]
          refine wpAnyH_take (i := 23) (oi := ?op23) (v := ?vp23) ?hip23 (by kernel_rfl) (by kernel_rfl) (by kernel_rfl) ?hQp23 ?hyp23 hHeld ?_
          case hip23 => simp only [List.getElem?_toArray, List.getElem?_cons_zero, List.getElem?_cons_succ]; rfl
          case hQp23 => exact fun _ _ _ h => h
          case hyp23 => refine Or.inl ⟨by rfl, ?_⟩; intro W hSw; (try dsimp only at hSw); go_simp; try with_reducible rfl
          simp only [Act.put, List.setIfInBounds_toArray, List.set_cons_zero, List.set_cons_succ]
          refine wpAnyH_inv (fun listed a W => ∃ (p : Nat) (e1 e2 e3 q1 q2 q3 z : Bool) (pv x9 x49 x52 x54 x55 x56 x59 x63 x64 x65 x68 x70 x71 : Value), listed = #[true, true, true, e1, true, true, decide (1 ≤ p), true, q1, decide (2 ≤ p), e2, true, true, decide (3 ≤ p), true, true, true, q2, decide (4 ≤ p), e3, true, true, decide (5 ≤ p), true, q3, decide (6 ≤ p), false, z, false] ∧ a = { tmps := #[Value.agg #[.int .i64 V.epoch, .slice a1 V.chain.length k1, .slice a2 V.since.length k2, .slice a3 V.boot.length k3], Value.int .i64 x, Value.int .i64 b, Value.pointer (some ⟨w.heap.size, 0, none⟩), undef, undef, Value.pointer (some ⟨w.heap.size + 1, 0, none⟩), Value.int .i64 0, Value.bool true, x9, Value.agg #[.int .i64 V.epoch, .slice a1 V.chain.length k1, .slice a2 V.since.length k2, .slice a3 V.boot.length k3], Value.bool true, Value.bool true, Value.bool false, Value.bool false, Value.int .i64 x, Value.bool (decide (x < 1)), Value.bool (decide (x < 1)), Value.bool (decide (x < 1)), Value.int .i64 x, Value.bool (decide (100 < x)), Value.bool (decide (x < 1) || decide (100 < x)), Value.bool (decide (x < 1) || decide (100 < x)), Value.int .i64 b, Value.bool (decide (b < 0)), Value.bool (decide (x < 1) || decide (100 < x) || decide (b < 0)), Value.bool (decide (x < 1) || decide (100 < x) || decide (b < 0)), Value.int .i64 b, Value.bool (decide (274877906944 < b)), Value.bool (decide (x < 1) || decide (100 < x) || decide (b < 0) || decide (274877906944 < b)), undef, Value.agg #[.int .i64 V.epoch, .slice a1 V.chain.length k1, .slice a2 V.since.length k2, .slice a3 V.boot.length k3], Value.int .i64 x, Value.int .i64 (-1), Value.bool false, undef, Value.pointer (some ⟨w.heap.size, 1, none⟩), Value.slice a1 V.chain.length k1, Value.int .i64 (V.chain.length : Int), Value.bool false, Value.bool false, Value.pointer (some ⟨w.heap.size, 0, none⟩), Value.int .i64 V.epoch, Value.bool false, Value.bool false, undef, Value.pointer (some ⟨w.heap.size, 0, none⟩), Value.int .i64 V.epoch, Value.int .i64 (V.epoch + 1), x49, Value.pointer (some ⟨w.heap.size, 1, none⟩), Value.slice a1 V.chain.length k1, x52, Value.int .i64 x, x54, x55, x56, Value.pointer (some ⟨w.heap.size, 2, none⟩), Value.slice a2 V.since.length k2, x59, Value.pointer (some ⟨w.heap.size, 0, none⟩), Value.int .i64 V.epoch, Value.int .i64 (V.epoch + 1), x63, x64, x65, Value.pointer (some ⟨w.heap.size, 3, none⟩), Value.slice a3 V.boot.length k3, x68, Value.int .i64 b, x70, x71, undef, undef], defers := [] } ∧ (fun W => W.cell? ⟨w.heap.size, 0, none⟩ = some (.int .i64 V.epoch) ∧ W.cell? ⟨w.heap.size, 1, none⟩ = some (.slice a1 V.chain.length k1) ∧ W.cell? ⟨w.heap.size, 2, none⟩ = some (.slice a2 V.since.length k2) ∧ W.cell? ⟨w.heap.size, 3, none⟩ = some (.slice a3 V.boot.length k3) ∧ W.cell? ⟨w.heap.size + 1, 0, none⟩ = some (cellOr W ⟨w.heap.size + 1, 0, none⟩) ∧ W.cell? ⟨w.heap.size + 1, 1, none⟩ = some (cellOr W ⟨w.heap.size + 1, 1, none⟩) ∧ W.cell? ⟨w.heap.size + 1, 2, none⟩ = some (cellOr W ⟨w.heap.size + 1, 2, none⟩) ∧ W.cell? ⟨w.heap.size + 1, 3, none⟩ = some (cellOr W ⟨w.heap.size + 1, 3, none⟩) ∧ W.frozen? ⟨w.heap.size + 1, 0, none⟩ = false ∧ W.frozen? ⟨w.heap.size + 1, 1, none⟩ = false ∧ W.frozen? ⟨w.heap.size + 1, 2, none⟩ = false ∧ W.frozen? ⟨w.heap.size + 1, 3, none⟩ = false ∧ w.heap.size + 2 ≤ W.heap.size ∧ Below (w.heap.size + 1) (w.alloc (.cells #[.int .i64 V.epoch, .slice a1 V.chain.length k1, .slice a2 V.since.length k2, .slice a3 V.boot.length k3] 41)) W) W ∧ B0 ≤ W.heap.size ∧ Below B0 w2.drew W ∧ (∀ j, pv.ownBlock = some j → B0 ≤ j ∧ j < W.heap.size) ∧ (2 ≤ p → q1 = true) ∧ (4 ≤ p → q2 = true) ∧ (6 ≤ p → q3 = true) ∧ (1 ≤ p → e1 = true) ∧ (3 ≤ p → e2 = true) ∧ (5 ≤ p → e3 = true) ∧ (e1 = true → ∃ g, x49 = .slice (some ⟨g, 0, none⟩) 0 0) ∧ (e2 = true → ∃ g, x56 = .slice (some ⟨g, 0, none⟩) 0 0) ∧ (e3 = true → ∃ g, x65 = .slice (some ⟨g, 0, none⟩) 0 0) ∧ (p = 1 → x52 = pv ∧ W.ownsRow B0 3 1 pv V.chain.length (icells V.chain)) ∧ (p = 3 → x59 = pv ∧ W.ownsRow B0 3 1 pv V.since.length (icells V.since)) ∧ (p = 5 → x68 = pv ∧ W.ownsRow B0 3 1 pv V.boot.length (icells V.boot)) ∧ Lane W B0 3 pv V.chain x q1 (decide (2 ≤ p)) x54 x55 ∧ Lane W B0 3 pv V.since (V.epoch + 1) q2 (decide (4 ≤ p)) x63 x64 ∧ Lane W B0 3 pv V.boot b q3 (decide (6 ≤ p)) x70 x71 ∧ ZBox W B0 z x9 pv x55 x64 x71 (decide (2 ≤ p)) (decide (4 ≤ p)) (decide (6 ≤ p)) ∧ p ≤ 6) ?_ _ _ _ _ ?_ (by kernel_rfl) (by simp)
          · intro listed a W hJ
            obtain ⟨p, e1, e2, e3, q1, q2, q3, z, pv, x9, x49, x52, x54, x55, x56, x59, x63, x64, x65, x68, x70, x71, rfl, rfl, hS, hBJ, hbe, hpv, g1, g2, g3, k1', k2', k3', he1, he2, he3, o1, o2, o3, La1, La2, La3, ZB, hp6⟩ := hJ
            by_cases hex : p = 6
            · right
              subst hex
              obtain rfl : q1 = true := g1 (by omega)
              obtain rfl : q2 = true := g2 (by omega)
              obtain rfl : q3 = true := g3 (by omega)
              obtain rfl : e1 = true := k1' (by omega)
              obtain rfl : e2 = true := k2' (by omega)
              obtain rfl : e3 = true := k3' (by omega)
              obtain ⟨⟨r1, m1, rfl⟩, ow1, _⟩ := La1.done rfl
              obtain ⟨⟨r2, m2, rfl⟩, ow2, _⟩ := La2.done rfl
              obtain ⟨⟨r3, m3, rfl⟩, ow3, _⟩ := La3.done rfl
              have OW1 := Lib.hid ow1
              have OW2 := Lib.hid ow2
              have OW3 := Lib.hid ow3
              clear La1 La2 La3 o1 o2 o3 g1 g2 g3 k1' k2' k3' he1 he2 he3 ow1 ow2 ow3
              intro m hm
              cases z with
              | true =>
                obtain ⟨gz, rfl, hgz0, hgz1, ahgz2, _, n1, n2, n3⟩ := ZB.here rfl
                have N1 := Lib.hid (n1 rfl)
                have N2 := Lib.hid (n2 rfl)
                have N3 := Lib.hid (n3 rfl)
                clear ZB n1 n2 n3
                obtain ⟨m', rfl⟩ : ∃ m', m = m' + 2 := ⟨m - 2, by simp at hm; omega⟩
                clear hm
                refine wpAnyH_take (i := 26) (oi := ?op26a) (v := ?vp26a) ?hip26a (by kernel_rfl) (by kernel_rfl) (by kernel_rfl) ?hQp26a ?hyp26a hS ?_
                case hip26a => simp only [List.getElem?_toArray, List.getElem?_cons_zero, List.getElem?_cons_succ]; rfl
                case hQp26a => exact fun _ _ _ h => h
                case hyp26a => refine Or.inl ⟨by rfl, ?_⟩; intro W hSw; (try dsimp only at hSw); go_simp; try with_reducible rfl
                simp only [Act.put, List.setIfInBounds_toArray, List.set_cons_zero, List.set_cons_succ]
                obtain ⟨u0, u1, u2, u3⟩ := block_cells ahgz2
                obtain ⟨fz0, fz1, fz2, fz3⟩ := block_frozen ahgz2
                refine wpAnyH_ready (rs := [28]) (by kernel_rfl) (by simp) ?_
                refine AllReadyH.cons (o := ?op28a) ?hop28a (fun K' hK => ?_) AllReadyH.nil
                case hop28a => simp only [List.getElem?_toArray, List.getElem?_cons_zero, List.getElem?_cons_succ]; rfl
                go_simp
                refine hK.out _ _ (held_set_hi hS gz (by omega)) (fun hS2 => ?_)
                clear hK K'
                refine wpAnyH_done (by kernel_rfl) ?_ _
                have hbs := block_set (block_set (block_set (block_set ahgz2 0 (.int .i64 (V.epoch + 1))) 1 (.slice r1 (V.chain.length + 1) m1)) 2 (.slice r2 (V.since.length + 1) m2)) 3 (.slice r3 (V.boot.length + 1) m3)
                have HBS := Lib.hid hbs
                clear ahgz2 hbs u0 u1 u2 u3 fz0 fz1 fz2 fz3
                go_wp2
                all_goals go_meet
                all_goals
                  case rel =>
                    refine ⟨gz, r1, m1, r2, m2, r3, m3, rfl, by omega, HBS.out, own_set4_ne (OW1.out) gz N1.out _ _ _ _, own_set4_ne (OW2.out) gz N2.out _ _ _ _, own_set4_ne (OW3.out) gz N3.out _ _ _ _, below_set4 (hb12.drew.trans ((hbe).mono hB00)) gz (by omega) _ _ _ _⟩
              | false =>
                clear ZB
                obtain ⟨m', rfl⟩ : ∃ m', m = m' + 3 := ⟨m - 3, by simp at hm; omega⟩
                clear hm
                refine wpAnyH_take (i := 26) (oi := ?op26b) (v := ?vp26b) ?hip26b (by kernel_rfl) (by kernel_rfl) (by kernel_rfl) ?hQp26b ?hyp26b hS ?_
                case hip26b => simp only [List.getElem?_toArray, List.getElem?_cons_zero, List.getElem?_cons_succ]; rfl
                case hQp26b => exact fun _ _ _ h => h
                case hyp26b => refine Or.inl ⟨by rfl, ?_⟩; intro W hSw; (try dsimp only at hSw); go_simp; try with_reducible rfl
                simp only [Act.put, List.setIfInBounds_toArray, List.set_cons_zero, List.set_cons_succ]
                refine wpAnyH_ready (rs := [27]) (by kernel_rfl) (by simp) ?_
                refine AllReadyH.cons (o := ?op27b) ?hop27b (fun K' hK => ?_) AllReadyH.nil
                case hop27b => simp only [List.getElem?_toArray, List.getElem?_cons_zero, List.getElem?_cons_succ]; rfl
                go_simp
                have hbW : Below W.heap.size W (W.alloc (.cells #[.int .i64 0, .slice none 0 0, .slice none 0 0, .slice none 0 0] 41)) := (Below.refl _ _).alloc (Nat.le_refl _) _
                refine hK.out _ _ (held_keep hS hbW) (fun hS1 => ?_)
                clear hK K'
                (try simp only [List.setIfInBounds_toArray, List.set_cons_zero, List.set_cons_succ])
                have bhgz2 := heap_alloc_new W (.cells #[.int .i64 0, .slice none 0 0, .slice none 0 0, .slice none 0 0] 41)
                have N1 := Lib.hid (show (Value.slice r1 (V.chain.length + 1) m1).ownBlock ≠ some W.heap.size from fun e => by have := (OW1.out.lt _ e).2; omega)
                have N2 := Lib.hid (show (Value.slice r2 (V.since.length + 1) m2).ownBlock ≠ some W.heap.size from fun e => by have := (OW2.out.lt _ e).2; omega)
                have N3 := Lib.hid (show (Value.slice r3 (V.boot.length + 1) m3).ownBlock ≠ some W.heap.size from fun e => by have := (OW3.out.lt _ e).2; omega)
                have HBW := Lib.hid hbW
                clear hbW
                refine wpAnyH_ready (rs := [28]) (by kernel_rfl) (by simp) ?_
                refine AllReadyH.cons (o := ?op28b) ?hop28b (fun K' hK => ?_) AllReadyH.nil
                case hop28b => simp only [List.getElem?_toArray, List.getElem?_cons_zero, List.getElem?_cons_succ]; rfl
                go_simp
                have hbW2 : Below W.heap.size W (W.alloc (.cells #[.int .i64 (V.epoch + 1), .slice r1 (V.chain.length + 1) m1, .slice r2 (V.since.length + 1) m2, .slice r3 (V.boot.length + 1) m3] 41)) := (Below.refl _ _).alloc (Nat.le_refl _) _
                with_reducible refine hK.out _ _ (held_keep hS hbW2) (fun hS2 => ?_)
                clear hK K'
                refine wpAnyH_done (by kernel_rfl) ?_ _
                have HBS := Lib.hid (heap_alloc_new W (.cells #[.int .i64 (V.epoch + 1), .slice r1 (V.chain.length + 1) m1, .slice r2 (V.since.length + 1) m2, .slice r3 (V.boot.length + 1) m3] 41))
                have HBW2 := Lib.hid hbW2
                clear hbW2 bhgz2
                go_wp2
                all_goals go_meet
                all_goals
                  case rel =>
                    exact ⟨W.heap.size, r1, m1, r2, m2, r3, m3, rfl, by omega, HBS.out, own_below HBW2.out OW1.out, own_below HBW2.out OW2.out, own_below HBW2.out OW3.out, below_more (hb12.drew.trans (hbe.mono hB00)) (by omega) HBW2.out⟩
            · left
              refine ⟨?_, fun i hi => ?_⟩
              · rcases (by omega : p = 0 ∨ p = 1 ∨ p = 2 ∨ p = 3 ∨ p = 4 ∨ p = 5) with rfl | rfl | rfl | rfl | rfl | rfl
                · cases e1
                  · exact List.ne_nil_of_mem (a := 3) (mem_ready.2 ⟨rfl, _, rfl, fun e he hb => by (simp at he) <;> (first | (subst he; rfl) | (rcases he with rfl | rfl <;> rfl) | (rcases he with rfl | rfl | rfl <;> rfl))⟩)
                  · exact List.ne_nil_of_mem (a := 6) (mem_ready.2 ⟨rfl, _, rfl, fun e he hb => by (simp at he) <;> (first | (subst he; rfl) | (rcases he with rfl | rfl <;> rfl) | (rcases he with rfl | rfl | rfl <;> rfl))⟩)
                · cases q1
                  · exact List.ne_nil_of_mem (a := 8) (mem_ready.2 ⟨rfl, _, rfl, fun e he hb => by (simp at he) <;> (first | (subst he; rfl) | (rcases he with rfl | rfl <;> rfl) | (rcases he with rfl | rfl | rfl <;> rfl))⟩)
                  · exact List.ne_nil_of_mem (a := 9) (mem_ready.2 ⟨rfl, _, rfl, fun e he hb => by (simp at he) <;> (first | (subst he; rfl) | (rcases he with rfl | rfl <;> rfl) | (rcases he with rfl | rfl | rfl <;> rfl))⟩)
                · cases e2
                  · exact List.ne_nil_of_mem (a := 10) (mem_ready.2 ⟨rfl, _, rfl, fun e he hb => by (simp at he) <;> (first | (subst he; rfl) | (rcases he with rfl | rfl <;> rfl) | (rcases he with rfl | rfl | rfl <;> rfl))⟩)
                  · exact List.ne_nil_of_mem (a := 13) (mem_ready.2 ⟨rfl, _, rfl, fun e he hb => by (simp at he) <;> (first | (subst he; rfl) | (rcases he with rfl | rfl <;> rfl) | (rcases he with rfl | rfl | rfl <;> rfl))⟩)
                · cases q2
                  · exact List.ne_nil_of_mem (a := 17) (mem_ready.2 ⟨rfl, _, rfl, fun e he hb => by (simp at he) <;> (first | (subst he; rfl) | (rcases he with rfl | rfl <;> rfl) | (rcases he with rfl | rfl | rfl <;> rfl))⟩)
                  · exact List.ne_nil_of_mem (a := 18) (mem_ready.2 ⟨rfl, _, rfl, fun e he hb => by (simp at he) <;> (first | (subst he; rfl) | (rcases he with rfl | rfl <;> rfl) | (rcases he with rfl | rfl | rfl <;> rfl))⟩)
                · cases e3
                  · exact List.ne_nil_of_mem (a := 19) (mem_ready.2 ⟨rfl, _, rfl, fun e he hb => by (simp at he) <;> (first | (subst he; rfl) | (rcases he with rfl | rfl <;> rfl) | (rcases he with rfl | rfl | rfl <;> rfl))⟩)
                  · exact List.ne_nil_of_mem (a := 22) (mem_ready.2 ⟨rfl, _, rfl, fun e he hb => by (simp at he) <;> (first | (subst he; rfl) | (rcases he with rfl | rfl <;> rfl) | (rcases he with rfl | rfl | rfl <;> rfl))⟩)
                · cases q3
                  · exact List.ne_nil_of_mem (a := 24) (mem_ready.2 ⟨rfl, _, rfl, fun e he hb => by (simp at he) <;> (first | (subst he; rfl) | (rcases he with rfl | rfl <;> rfl) | (rcases he with rfl | rfl | rfl <;> rfl))⟩)
                  · exact List.ne_nil_of_mem (a := 25) (mem_ready.2 ⟨rfl, _, rfl, fun e he hb => by (simp at he) <;> (first | (subst he; rfl) | (rcases he with rfl | rfl <;> rfl) | (rcases he with rfl | rfl | rfl <;> rfl))⟩)
              · obtain ⟨h0, o, ho, hall⟩ := mem_ready.1 hi
                have hlt : i < 29 := by
                  rcases Nat.lt_or_ge i 29 with h | h
                  · exact h
                  · rw [Array.getElem?_eq_none (by simpa using h)] at ho; cases ho
                rcases (by omega : i = 0 ∨ i = 1 ∨ i = 2 ∨ i = 3 ∨ i = 4 ∨ i = 5 ∨ i = 6 ∨ i = 7 ∨ i = 8 ∨ i = 9 ∨ i = 10 ∨ i = 11 ∨ i = 12 ∨ i = 13 ∨ i = 14 ∨ i = 15 ∨ i = 16 ∨ i = 17 ∨ i = 18 ∨ i = 19 ∨ i = 20 ∨ i = 21 ∨ i = 22 ∨ i = 23 ∨ i = 24 ∨ i = 25 ∨ i = 26 ∨ i = 27 ∨ i = 28) with rfl | rfl | rfl | rfl | rfl | rfl | rfl | rfl | rfl | rfl | rfl | rfl | rfl | rfl | rfl | rfl | rfl | rfl | rfl | rfl | rfl | rfl | rfl | rfl | rfl | rfl | rfl | rfl | rfl
                · cases h0
                · cases h0
                · cases h0
                · have hq : e1 = false := h0
                  refine wpOp_step (o := ?oo3) ?ho3 (fun K' hK => ?_)
                  case ho3 => simp only [List.getElem?_toArray, List.getElem?_cons_zero, List.getElem?_cons_succ]; rfl
                  have HK := Lib.hid hK
                  clear hK
                  go_simp
                  have hbW : Below W.heap.size W (W.alloc (.cells #[] 3)) := (Below.refl _ _).alloc (Nat.le_refl _) _
                  have hS' := held_keep hS hbW
                  refine HK.out _ _ ⟨hS', p, true, e2, e3, q1, q2, q3, z, pv, x9, (.slice (some ⟨W.heap.size, 0, none⟩) 0 0), x52, x54, x55, x56, x59, x63, x64, x65, x68, x70, x71, rfl, rfl, hS', Nat.le_trans hBJ hbW.size, below_more hbe hBJ hbW, (fun j hj => ⟨(hpv j hj).1, Nat.lt_of_lt_of_le (hpv j hj).2 hbW.size⟩), ?_, ?_, ?_, ?_, ?_, ?_, (fun _ => ⟨_, rfl⟩), he2, he3, (fun h => ⟨(o1 h).1, own_below hbW (o1 h).2⟩), (fun h => ⟨(o2 h).1, own_below hbW (o2 h).2⟩), (fun h => ⟨(o3 h).1, own_below hbW (o3 h).2⟩), La1.alloc _, La2.alloc _, La3.alloc _, ZB.alloc _, by omega⟩
                  · first | exact fun _ => rfl | exact g1 | exact fun _ => g1 (by omega) | exact fun h => absurd h (by omega)
                  · first | exact fun _ => rfl | exact g2 | exact fun _ => g2 (by omega) | exact fun h => absurd h (by omega)
                  · first | exact fun _ => rfl | exact g3 | exact fun _ => g3 (by omega) | exact fun h => absurd h (by omega)
                  · first | exact fun _ => rfl | exact k1' | exact fun _ => k1' (by omega) | exact fun _ => hq | exact fun h => absurd h (by omega)
                  · first | exact fun _ => rfl | exact k2' | exact fun _ => k2' (by omega) | exact fun _ => hq | exact fun h => absurd h (by omega)
                  · first | exact fun _ => rfl | exact k3' | exact fun _ => k3' (by omega) | exact fun _ => hq | exact fun h => absurd h (by omega)
                · cases h0
                · cases h0
                · simp only [List.getElem?_toArray, List.getElem?_cons_succ, List.getElem?_cons_zero, Option.some.injEq] at ho
                  subst ho
                  have hp0 : p = 0 := by
                    have h1 : decide (1 ≤ p) = false := h0
                    simp only [decide_eq_false_iff_not] at h1
                    omega
                  subst hp0
                  have hq : e1 = true := hall ⟨3, .data⟩ (by simp) rfl
                  obtain ⟨ge, hge⟩ := he1 hq
                  subst hge
                  refine wpOp_step (o := ?oo6) ?ho6 (fun K' hK => ?_)
                  case ho6 => simp only [List.getElem?_toArray, List.getElem?_cons_zero, List.getElem?_cons_succ]; rfl
                  have HK := Lib.hid hK
                  clear hK
                  refine step_append_empty W (by rfl) _ _ _ (by rfl) 3 i0 _ 8 Try.underlying22 hi0 hz0 hz1 hz2 rfl ⟨ge, 0, none⟩ (by rfl) B _ V.chain (by rfl) (H1.out.keep (held_below hS) hB) (by omega) (by unfold maxLen; omega) (by omega) ?_
                  intro cap W' ow hbW
                  have hS' := held_keep hS hbW
                  refine HK.out _ _ ⟨hS', 1, e1, e2, e3, q1, q2, q3, z, (.slice (some ⟨W.heap.size, 0, none⟩) V.chain.length cap), x9, (.slice (some ⟨ge, 0, none⟩) 0 0), (.slice (some ⟨W.heap.size, 0, none⟩) V.chain.length cap), x54, x55, x56, x59, x63, x64, x65, x68, x70, x71, rfl, rfl, hS', Nat.le_trans hBJ hbW.size, below_more hbe hBJ hbW, (fun j hj => ⟨Nat.le_trans hBJ (ow.lt j hj).1, (ow.lt j hj).2⟩), ?_, ?_, ?_, ?_, ?_, ?_, (fun _ => ⟨_, rfl⟩), he2, he3, (fun _ => ⟨rfl, own_base hBJ ow⟩), (fun h => absurd h (by omega)), (fun h => absurd h (by omega)), La1.below hbW (fun j hj => (ow.lt j hj).1), La2.below hbW (fun j hj => (ow.lt j hj).1), La3.below hbW (fun j hj => (ow.lt j hj).1), ZB.below hbW (fun j hj => (ow.lt j hj).1), by omega⟩
                  · first | exact fun _ => rfl | exact g1 | exact fun _ => g1 (by omega) | exact fun h => absurd h (by omega)
                  · first | exact fun _ => rfl | exact g2 | exact fun _ => g2 (by omega) | exact fun h => absurd h (by omega)
                  · first | exact fun _ => rfl | exact g3 | exact fun _ => g3 (by omega) | exact fun h => absurd h (by omega)
                  · first | exact fun _ => rfl | exact k1' | exact fun _ => k1' (by omega) | exact fun _ => hq | exact fun h => absurd h (by omega)
                  · first | exact fun _ => rfl | exact k2' | exact fun _ => k2' (by omega) | exact fun _ => hq | exact fun h => absurd h (by omega)
                  · first | exact fun _ => rfl | exact k3' | exact fun _ => k3' (by omega) | exact fun _ => hq | exact fun h => absurd h (by omega)
                · cases h0
                · have hq : q1 = false := h0
                  have hna1 : q1 = false → decide (2 ≤ p) = false := fun h => by
                    rw [decide_eq_false_iff_not]
                    intro h2
                    rw [g1 h2] at h
                    cases h
                  refine wpOp_step (o := ?oo8) ?ho8 (fun K' hK => ?_)
                  case ho8 => simp only [List.getElem?_toArray, List.getElem?_cons_zero, List.getElem?_cons_succ]; rfl
                  have HK := Lib.hid hK
                  clear hK
                  go_simp
                  have hbW : Below W.heap.size W (W.alloc (.cells #[.int .i64 x] 3)) := (Below.refl _ _).alloc (Nat.le_refl _) _
                  have hS' := held_keep hS hbW
                  refine HK.out _ _ ⟨hS', p, e1, e2, e3, true, q2, q3, z, pv, x9, x49, x52, (.slice (some ⟨W.heap.size, 0, none⟩) 1 1), x55, x56, x59, x63, x64, x65, x68, x70, x71, rfl, rfl, hS', Nat.le_trans hBJ hbW.size, below_more hbe hBJ hbW, (fun j hj => ⟨(hpv j hj).1, Nat.lt_of_lt_of_le (hpv j hj).2 hbW.size⟩), ?_, ?_, ?_, ?_, ?_, ?_, (he1), (he2), (he3), (fun h => ⟨(o1 h).1, own_below hbW (o1 h).2⟩), (fun h => ⟨(o2 h).1, own_below hbW (o2 h).2⟩), (fun h => ⟨(o3 h).1, own_below hbW (o3 h).2⟩), Lane.mk' (fun j hj => (hpv j hj).2) _ hna1 hq, La2.alloc _, La3.alloc _, ZB.alloc _, by omega⟩
                  · first | exact fun _ => rfl | exact g1 | exact fun _ => g1 (by omega) | exact fun h => absurd h (by omega)
                  · first | exact fun _ => rfl | exact g2 | exact fun _ => g2 (by omega) | exact fun h => absurd h (by omega)
                  · first | exact fun _ => rfl | exact g3 | exact fun _ => g3 (by omega) | exact fun h => absurd h (by omega)
                  · first | exact fun _ => rfl | exact k1' | exact fun _ => k1' (by omega) | exact fun _ => hq | exact fun h => absurd h (by omega)
                  · first | exact fun _ => rfl | exact k2' | exact fun _ => k2' (by omega) | exact fun _ => hq | exact fun h => absurd h (by omega)
                  · first | exact fun _ => rfl | exact k3' | exact fun _ => k3' (by omega) | exact fun _ => hq | exact fun h => absurd h (by omega)
                · simp only [List.getElem?_toArray, List.getElem?_cons_succ, List.getElem?_cons_zero, Option.some.injEq] at ho
                  subst ho
                  have hp0 : p = 1 := by
                    have h1 : decide (2 ≤ p) = false := h0
                    have h2 : decide (1 ≤ p) = true := hall ⟨6, .chain⟩ (by simp) rfl
                    simp only [decide_eq_false_iff_not, decide_eq_true_eq] at h1 h2
                    omega
                  subst hp0
                  have hq : q1 = true := hall ⟨8, .data⟩ (by simp) rfl
                  subst hq
                  obtain ⟨rfl, ow⟩ := o1 rfl
                  obtain ⟨g, rfl, hg1, hg2, hg3⟩ := La1.lit rfl rfl
                  refine wpOp_step (o := ?oo9) ?ho9 (fun K' hK => ?_)
                  case ho9 => simp only [List.getElem?_toArray, List.getElem?_cons_zero, List.getElem?_cons_succ]; rfl
                  have HK := Lib.hid hK
                  clear hK
                  refine step_append_lies W (by rfl) _ _ _ (by rfl) B0 3 i0 _ 1 8 Try.underlying22 hi0 hz0 hz1 hz2 rfl (by omega) x52 V.chain.length _ (by rfl) ow ⟨g, 0, none⟩ 1 1 [.int .i64 x] (by rfl) (by rfl) (news_one hg2) (by simp [Value.oneCell']) (by omega) (by unfold maxLen; omega) (by omega) hBJ _ rfl ?_
                  intro gg cap W' hown hgrow hat hlt2
                  rw [← icells_snoc] at hown
                  have hS' := held_grow hS hgrow (fun j hj => by have := (hpv j hj).1; omega)
                  refine HK.out _ _ ⟨hS', 2, e1, e2, e3, true, q2, q3, z, .slice none 0 0, x9, x49, x52, (.slice (some ⟨g, 0, none⟩) 1 1), (.slice (some ⟨gg, 0, none⟩) (V.chain.length + 1) cap), x56, x59, x63, x64, x65, x68, x70, x71, rfl, rfl, hS', Nat.le_trans hBJ hgrow.size, hbe.grown hgrow hBJ (fun j hj => (hpv j hj).1), (fun j hj => by simp [Value.ownBlock] at hj), ?_, ?_, ?_, ?_, ?_, ?_, (he1), (he2), (he3), (fun h => absurd h (by omega)), (fun h => absurd h (by omega)), (fun h => absurd h (by omega)), Lane.app hown, La2.grow hgrow, La3.grow hgrow, ZB.grow1 hgrow hat, by omega⟩
                  · first | exact fun _ => rfl | exact g1 | exact fun _ => g1 (by omega) | exact fun h => absurd h (by omega)
                  · first | exact fun _ => rfl | exact g2 | exact fun _ => g2 (by omega) | exact fun h => absurd h (by omega)
                  · first | exact fun _ => rfl | exact g3 | exact fun _ => g3 (by omega) | exact fun h => absurd h (by omega)
                  · first | exact fun _ => rfl | exact k1' | exact fun _ => k1' (by omega) | exact fun _ => hq | exact fun h => absurd h (by omega)
                  · first | exact fun _ => rfl | exact k2' | exact fun _ => k2' (by omega) | exact fun _ => hq | exact fun h => absurd h (by omega)
                  · first | exact fun _ => rfl | exact k3' | exact fun _ => k3' (by omega) | exact fun _ => hq | exact fun h => absurd h (by omega)
                · have hq : e2 = false := h0
                  refine wpOp_step (o := ?oo10) ?ho10 (fun K' hK => ?_)
                  case ho10 => simp only [List.getElem?_toArray, List.getElem?_cons_zero, List.getElem?_cons_succ]; rfl
                  have HK := Lib.hid hK
                  clear hK
                  go_simp
                  have hbW : Below W.heap.size W (W.alloc (.cells #[] 3)) := (Below.refl _ _).alloc (Nat.le_refl _) _
                  have hS' := held_keep hS hbW
                  refine HK.out _ _ ⟨hS', p, e1, true, e3, q1, q2, q3, z, pv, x9, x49, x52, x54, x55, (.slice (some ⟨W.heap.size, 0, none⟩) 0 0), x59, x63, x64, x65, x68, x70, x71, rfl, rfl, hS', Nat.le_trans hBJ hbW.size, below_more hbe hBJ hbW, (fun j hj => ⟨(hpv j hj).1, Nat.lt_of_lt_of_le (hpv j hj).2 hbW.size⟩), ?_, ?_, ?_, ?_, ?_, ?_, he1, (fun _ => ⟨_, rfl⟩), he3, (fun h => ⟨(o1 h).1, own_below hbW (o1 h).2⟩), (fun h => ⟨(o2 h).1, own_below hbW (o2 h).2⟩), (fun h => ⟨(o3 h).1, own_below hbW (o3 h).2⟩), La1.alloc _, La2.alloc _, La3.alloc _, ZB.alloc _, by omega⟩
                  · first | exact fun _ => rfl | exact g1 | exact fun _ => g1 (by omega) | exact fun h => absurd h (by omega)
                  · first | exact fun _ => rfl | exact g2 | exact fun _ => g2 (by omega) | exact fun h => absurd h (by omega)
                  · first | exact fun _ => rfl | exact g3 | exact fun _ => g3 (by omega) | exact fun h => absurd h (by omega)
                  · first | exact fun _ => rfl | exact k1' | exact fun _ => k1' (by omega) | exact fun _ => hq | exact fun h => absurd h (by omega)
                  · first | exact fun _ => rfl | exact k2' | exact fun _ => k2' (by omega) | exact fun _ => hq | exact fun h => absurd h (by omega)
                  · first | exact fun _ => rfl | exact k3' | exact fun _ => k3' (by omega) | exact fun _ => hq | exact fun h => absurd h (by omega)
                · cases h0
                · cases h0
                · simp only [List.getElem?_toArray, List.getElem?_cons_succ, List.getElem?_cons_zero, Option.some.injEq] at ho
                  subst ho
                  have hp0 : p = 2 := by
                    have h1 : decide (3 ≤ p) = false := h0
                    have h2 : decide (2 ≤ p) = true := hall ⟨9, .chain⟩ (by simp) rfl
                    simp only [decide_eq_false_iff_not, decide_eq_true_eq] at h1 h2
                    omega
                  subst hp0
                  have hq : e2 = true := hall ⟨10, .data⟩ (by simp) rfl
                  obtain ⟨ge, hge⟩ := he2 hq
                  subst hge
                  refine wpOp_step (o := ?oo13) ?ho13 (fun K' hK => ?_)
                  case ho13 => simp only [List.getElem?_toArray, List.getElem?_cons_zero, List.getElem?_cons_succ]; rfl
                  have HK := Lib.hid hK
                  clear hK
                  refine step_append_empty W (by rfl) _ _ _ (by rfl) 3 i0 _ 8 Try.underlying22 hi0 hz0 hz1 hz2 rfl ⟨ge, 0, none⟩ (by rfl) B _ V.since (by rfl) (H2.out.keep (held_below hS) hB) (by omega) (by unfold maxLen; omega) (by omega) ?_
                  intro cap W' ow hbW
                  have hS' := held_keep hS hbW
                  refine HK.out _ _ ⟨hS', 3, e1, e2, e3, q1, q2, q3, z, (.slice (some ⟨W.heap.size, 0, none⟩) V.since.length cap), x9, x49, x52, x54, x55, (.slice (some ⟨ge, 0, none⟩) 0 0), (.slice (some ⟨W.heap.size, 0, none⟩) V.since.length cap), x63, x64, x65, x68, x70, x71, rfl, rfl, hS', Nat.le_trans hBJ hbW.size, below_more hbe hBJ hbW, (fun j hj => ⟨Nat.le_trans hBJ (ow.lt j hj).1, (ow.lt j hj).2⟩), ?_, ?_, ?_, ?_, ?_, ?_, he1, (fun _ => ⟨_, rfl⟩), he3, (fun h => absurd h (by omega)), (fun _ => ⟨rfl, own_base hBJ ow⟩), (fun h => absurd h (by omega)), La1.below hbW (fun j hj => (ow.lt j hj).1), La2.below hbW (fun j hj => (ow.lt j hj).1), La3.below hbW (fun j hj => (ow.lt j hj).1), ZB.below hbW (fun j hj => (ow.lt j hj).1), by omega⟩
                  · first | exact fun _ => rfl | exact g1 | exact fun _ => g1 (by omega) | exact fun h => absurd h (by omega)
                  · first | exact fun _ => rfl | exact g2 | exact fun _ => g2 (by omega) | exact fun h => absurd h (by omega)
                  · first | exact fun _ => rfl | exact g3 | exact fun _ => g3 (by omega) | exact fun h => absurd h (by omega)
                  · first | exact fun _ => rfl | exact k1' | exact fun _ => k1' (by omega) | exact fun _ => hq | exact fun h => absurd h (by omega)
                  · first | exact fun _ => rfl | exact k2' | exact fun _ => k2' (by omega) | exact fun _ => hq | exact fun h => absurd h (by omega)
                  · first | exact fun _ => rfl | exact k3' | exact fun _ => k3' (by omega) | exact fun _ => hq | exact fun h => absurd h (by omega)
                · cases h0
                · cases h0
                · cases h0
                · have hq : q2 = false := h0
                  have hna2 : q2 = false → decide (4 ≤ p) = false := fun h => by
                    rw [decide_eq_false_iff_not]
                    intro h2
                    rw [g2 h2] at h
                    cases h
                  refine wpOp_step (o := ?oo17) ?ho17 (fun K' hK => ?_)
                  case ho17 => simp only [List.getElem?_toArray, List.getElem?_cons_zero, List.getElem?_cons_succ]; rfl
                  have HK := Lib.hid hK
                  clear hK
                  go_simp
                  have hbW : Below W.heap.size W (W.alloc (.cells #[.int .i64 (V.epoch + 1)] 3)) := (Below.refl _ _).alloc (Nat.le_refl _) _
                  have hS' := held_keep hS hbW
                  refine HK.out _ _ ⟨hS', p, e1, e2, e3, q1, true, q3, z, pv, x9, x49, x52, x54, x55, x56, x59, (.slice (some ⟨W.heap.size, 0, none⟩) 1 1), x64, x65, x68, x70, x71, rfl, rfl, hS', Nat.le_trans hBJ hbW.size, below_more hbe hBJ hbW, (fun j hj => ⟨(hpv j hj).1, Nat.lt_of_lt_of_le (hpv j hj).2 hbW.size⟩), ?_, ?_, ?_, ?_, ?_, ?_, (he1), (he2), (he3), (fun h => ⟨(o1 h).1, own_below hbW (o1 h).2⟩), (fun h => ⟨(o2 h).1, own_below hbW (o2 h).2⟩), (fun h => ⟨(o3 h).1, own_below hbW (o3 h).2⟩), La1.alloc _, Lane.mk' (fun j hj => (hpv j hj).2) _ hna2 hq, La3.alloc _, ZB.alloc _, by omega⟩
                  · first | exact fun _ => rfl | exact g1 | exact fun _ => g1 (by omega) | exact fun h => absurd h (by omega)
                  · first | exact fun _ => rfl | exact g2 | exact fun _ => g2 (by omega) | exact fun h => absurd h (by omega)
                  · first | exact fun _ => rfl | exact g3 | exact fun _ => g3 (by omega) | exact fun h => absurd h (by omega)
                  · first | exact fun _ => rfl | exact k1' | exact fun _ => k1' (by omega) | exact fun _ => hq | exact fun h => absurd h (by omega)
                  · first | exact fun _ => rfl | exact k2' | exact fun _ => k2' (by omega) | exact fun _ => hq | exact fun h => absurd h (by omega)
                  · first | exact fun _ => rfl | exact k3' | exact fun _ => k3' (by omega) | exact fun _ => hq | exact fun h => absurd h (by omega)
                · simp only [List.getElem?_toArray, List.getElem?_cons_succ, List.getElem?_cons_zero, Option.some.injEq] at ho
                  subst ho
                  have hp0 : p = 3 := by
                    have h1 : decide (4 ≤ p) = false := h0
                    have h2 : decide (3 ≤ p) = true := hall ⟨13, .chain⟩ (by simp) rfl
                    simp only [decide_eq_false_iff_not, decide_eq_true_eq] at h1 h2
                    omega
                  subst hp0
                  have hq : q2 = true := hall ⟨17, .data⟩ (by simp) rfl
                  subst hq
                  obtain ⟨rfl, ow⟩ := o2 rfl
                  obtain ⟨g, rfl, hg1, hg2, hg3⟩ := La2.lit rfl rfl
                  refine wpOp_step (o := ?oo18) ?ho18 (fun K' hK => ?_)
                  case ho18 => simp only [List.getElem?_toArray, List.getElem?_cons_zero, List.getElem?_cons_succ]; rfl
                  have HK := Lib.hid hK
                  clear hK
                  refine step_append_lies W (by rfl) _ _ _ (by rfl) B0 3 i0 _ 1 8 Try.underlying22 hi0 hz0 hz1 hz2 rfl (by omega) x59 V.since.length _ (by rfl) ow ⟨g, 0, none⟩ 1 1 [.int .i64 (V.epoch + 1)] (by rfl) (by rfl) (news_one hg2) (by simp [Value.oneCell']) (by omega) (by unfold maxLen; omega) (by omega) hBJ _ rfl ?_
                  intro gg cap W' hown hgrow hat hlt2
                  rw [← icells_snoc] at hown
                  have hS' := held_grow hS hgrow (fun j hj => by have := (hpv j hj).1; omega)
                  refine HK.out _ _ ⟨hS', 4, e1, e2, e3, q1, true, q3, z, .slice none 0 0, x9, x49, x52, x54, x55, x56, x59, (.slice (some ⟨g, 0, none⟩) 1 1), (.slice (some ⟨gg, 0, none⟩) (V.since.length + 1) cap), x65, x68, x70, x71, rfl, rfl, hS', Nat.le_trans hBJ hgrow.size, hbe.grown hgrow hBJ (fun j hj => (hpv j hj).1), (fun j hj => by simp [Value.ownBlock] at hj), ?_, ?_, ?_, ?_, ?_, ?_, (he1), (he2), (he3), (fun h => absurd h (by omega)), (fun h => absurd h (by omega)), (fun h => absurd h (by omega)), La1.grow hgrow, Lane.app hown, La3.grow hgrow, ZB.grow2 hgrow hat, by omega⟩
                  · first | exact fun _ => rfl | exact g1 | exact fun _ => g1 (by omega) | exact fun h => absurd h (by omega)
                  · first | exact fun _ => rfl | exact g2 | exact fun _ => g2 (by omega) | exact fun h => absurd h (by omega)
                  · first | exact fun _ => rfl | exact g3 | exact fun _ => g3 (by omega) | exact fun h => absurd h (by omega)
                  · first | exact fun _ => rfl | exact k1' | exact fun _ => k1' (by omega) | exact fun _ => hq | exact fun h => absurd h (by omega)
                  · first | exact fun _ => rfl | exact k2' | exact fun _ => k2' (by omega) | exact fun _ => hq | exact fun h => absurd h (by omega)
                  · first | exact fun _ => rfl | exact k3' | exact fun _ => k3' (by omega) | exact fun _ => hq | exact fun h => absurd h (by omega)
                · have hq : e3 = false := h0
                  refine wpOp_step (o := ?oo19) ?ho19 (fun K' hK => ?_)
                  case ho19 => simp only [List.getElem?_toArray, List.getElem?_cons_zero, List.getElem?_cons_succ]; rfl
                  have HK := Lib.hid hK
                  clear hK
                  go_simp
                  have hbW : Below W.heap.size W (W.alloc (.cells #[] 3)) := (Below.refl _ _).alloc (Nat.le_refl _) _
                  have hS' := held_keep hS hbW
                  refine HK.out _ _ ⟨hS', p, e1, e2, true, q1, q2, q3, z, pv, x9, x49, x52, x54, x55, x56, x59, x63, x64, (.slice (some ⟨W.heap.size, 0, none⟩) 0 0), x68, x70, x71, rfl, rfl, hS', Nat.le_trans hBJ hbW.size, below_more hbe hBJ hbW, (fun j hj => ⟨(hpv j hj).1, Nat.lt_of_lt_of_le (hpv j hj).2 hbW.size⟩), ?_, ?_, ?_, ?_, ?_, ?_, he1, he2, (fun _ => ⟨_, rfl⟩), (fun h => ⟨(o1 h).1, own_below hbW (o1 h).2⟩), (fun h => ⟨(o2 h).1, own_below hbW (o2 h).2⟩), (fun h => ⟨(o3 h).1, own_below hbW (o3 h).2⟩), La1.alloc _, La2.alloc _, La3.alloc _, ZB.alloc _, by omega⟩
                  · first | exact fun _ => rfl | exact g1 | exact fun _ => g1 (by omega) | exact fun h => absurd h (by omega)
                  · first | exact fun _ => rfl | exact g2 | exact fun _ => g2 (by omega) | exact fun h => absurd h (by omega)
                  · first | exact fun _ => rfl | exact g3 | exact fun _ => g3 (by omega) | exact fun h => absurd h (by omega)
                  · first | exact fun _ => rfl | exact k1' | exact fun _ => k1' (by omega) | exact fun _ => hq | exact fun h => absurd h (by omega)
                  · first | exact fun _ => rfl | exact k2' | exact fun _ => k2' (by omega) | exact fun _ => hq | exact fun h => absurd h (by omega)
                  · first | exact fun _ => rfl | exact k3' | exact fun _ => k3' (by omega) | exact fun _ => hq | exact fun h => absurd h (by omega)
                · cases h0
                · cases h0
                · simp only [List.getElem?_toArray, List.getElem?_cons_succ, List.getElem?_cons_zero, Option.some.injEq] at ho
                  subst ho
                  have hp0 : p = 4 := by
                    have h1 : decide (5 ≤ p) = false := h0
                    have h2 : decide (4 ≤ p) = true := hall ⟨18, .chain⟩ (by simp) rfl
                    simp only [decide_eq_false_iff_not, decide_eq_true_eq] at h1 h2
                    omega
                  subst hp0
                  have hq : e3 = true := hall ⟨19, .data⟩ (by simp) rfl
                  obtain ⟨ge, hge⟩ := he3 hq
                  subst hge
                  refine wpOp_step (o := ?oo22) ?ho22 (fun K' hK => ?_)
                  case ho22 => simp only [List.getElem?_toArray, List.getElem?_cons_zero, List.getElem?_cons_succ]; rfl
                  have HK := Lib.hid hK
                  clear hK
                  refine step_append_empty W (by rfl) _ _ _ (by rfl) 3 i0 _ 8 Try.underlying22 hi0 hz0 hz1 hz2 rfl ⟨ge, 0, none⟩ (by rfl) B _ V.boot (by rfl) (H3.out.keep (held_below hS) hB) (by omega) (by unfold maxLen; omega) (by omega) ?_
                  intro cap W' ow hbW
                  have hS' := held_keep hS hbW
                  refine HK.out _ _ ⟨hS', 5, e1, e2, e3, q1, q2, q3, z, (.slice (some ⟨W.heap.size, 0, none⟩) V.boot.length cap), x9, x49, x52, x54, x55, x56, x59, x63, x64, (.slice (some ⟨ge, 0, none⟩) 0 0), (.slice (some ⟨W.heap.size, 0, none⟩) V.boot.length cap), x70, x71, rfl, rfl, hS', Nat.le_trans hBJ hbW.size, below_more hbe hBJ hbW, (fun j hj => ⟨Nat.le_trans hBJ (ow.lt j hj).1, (ow.lt j hj).2⟩), ?_, ?_, ?_, ?_, ?_, ?_, he1, he2, (fun _ => ⟨_, rfl⟩), (fun h => absurd h (by omega)), (fun h => absurd h (by omega)), (fun _ => ⟨rfl, own_base hBJ ow⟩), La1.below hbW (fun j hj => (ow.lt j hj).1), La2.below hbW (fun j hj => (ow.lt j hj).1), La3.below hbW (fun j hj => (ow.lt j hj).1), ZB.below hbW (fun j hj => (ow.lt j hj).1), by omega⟩
                  · first | exact fun _ => rfl | exact g1 | exact fun _ => g1 (by omega) | exact fun h => absurd h (by omega)
                  · first | exact fun _ => rfl | exact g2 | exact fun _ => g2 (by omega) | exact fun h => absurd h (by omega)
                  · first | exact fun _ => rfl | exact g3 | exact fun _ => g3 (by omega) | exact fun h => absurd h (by omega)
                  · first | exact fun _ => rfl | exact k1' | exact fun _ => k1' (by omega) | exact fun _ => hq | exact fun h => absurd h (by omega)
                  · first | exact fun _ => rfl | exact k2' | exact fun _ => k2' (by omega) | exact fun _ => hq | exact fun h => absurd h (by omega)
                  · first | exact fun _ => rfl | exact k3' | exact fun _ => k3' (by omega) | exact fun _ => hq | exact fun h => absurd h (by omega)
                · cases h0
                · have hq : q3 = false := h0
                  have hna3 : q3 = false → decide (6 ≤ p) = false := fun h => by
                    rw [decide_eq_false_iff_not]
                    intro h2
                    rw [g3 h2] at h
                    cases h
                  refine wpOp_step (o := ?oo24) ?ho24 (fun K' hK => ?_)
                  case ho24 => simp only [List.getElem?_toArray, List.getElem?_cons_zero, List.getElem?_cons_succ]; rfl
                  have HK := Lib.hid hK
                  clear hK
                  go_simp
                  have hbW : Below W.heap.size W (W.alloc (.cells #[.int .i64 b] 3)) := (Below.refl _ _).alloc (Nat.le_refl _) _
                  have hS' := held_keep hS hbW
                  refine HK.out _ _ ⟨hS', p, e1, e2, e3, q1, q2, true, z, pv, x9, x49, x52, x54, x55, x56, x59, x63, x64, x65, x68, (.slice (some ⟨W.heap.size, 0, none⟩) 1 1), x71, rfl, rfl, hS', Nat.le_trans hBJ hbW.size, below_more hbe hBJ hbW, (fun j hj => ⟨(hpv j hj).1, Nat.lt_of_lt_of_le (hpv j hj).2 hbW.size⟩), ?_, ?_, ?_, ?_, ?_, ?_, (he1), (he2), (he3), (fun h => ⟨(o1 h).1, own_below hbW (o1 h).2⟩), (fun h => ⟨(o2 h).1, own_below hbW (o2 h).2⟩), (fun h => ⟨(o3 h).1, own_below hbW (o3 h).2⟩), La1.alloc _, La2.alloc _, Lane.mk' (fun j hj => (hpv j hj).2) _ hna3 hq, ZB.alloc _, by omega⟩
                  · first | exact fun _ => rfl | exact g1 | exact fun _ => g1 (by omega) | exact fun h => absurd h (by omega)
                  · first | exact fun _ => rfl | exact g2 | exact fun _ => g2 (by omega) | exact fun h => absurd h (by omega)
                  · first | exact fun _ => rfl | exact g3 | exact fun _ => g3 (by omega) | exact fun h => absurd h (by omega)
                  · first | exact fun _ => rfl | exact k1' | exact fun _ => k1' (by omega) | exact fun _ => hq | exact fun h => absurd h (by omega)
                  · first | exact fun _ => rfl | exact k2' | exact fun _ => k2' (by omega) | exact fun _ => hq | exact fun h => absurd h (by omega)
                  · first | exact fun _ => rfl | exact k3' | exact fun _ => k3' (by omega) | exact fun _ => hq | exact fun h => absurd h (by omega)
                · simp only [List.getElem?_toArray, List.getElem?_cons_succ, List.getElem?_cons_zero, Option.some.injEq] at ho
                  subst ho
                  have hp0 : p = 5 := by
                    have h1 : decide (6 ≤ p) = false := h0
                    have h2 : decide (5 ≤ p) = true := hall ⟨22, .chain⟩ (by simp) rfl
                    simp only [decide_eq_false_iff_not, decide_eq_true_eq] at h1 h2
                    omega
                  subst hp0
                  have hq : q3 = true := hall ⟨24, .data⟩ (by simp) rfl
                  subst hq
                  obtain ⟨rfl, ow⟩ := o3 rfl
                  obtain ⟨g, rfl, hg1, hg2, hg3⟩ := La3.lit rfl rfl
                  refine wpOp_step (o := ?oo25) ?ho25 (fun K' hK => ?_)
                  case ho25 => simp only [List.getElem?_toArray, List.getElem?_cons_zero, List.getElem?_cons_succ]; rfl
                  have HK := Lib.hid hK
                  clear hK
                  refine step_append_lies W (by rfl) _ _ _ (by rfl) B0 3 i0 _ 1 8 Try.underlying22 hi0 hz0 hz1 hz2 rfl (by omega) x68 V.boot.length _ (by rfl) ow ⟨g, 0, none⟩ 1 1 [.int .i64 b] (by rfl) (by rfl) (news_one hg2) (by simp [Value.oneCell']) (by omega) (by unfold maxLen; omega) (by omega) hBJ _ rfl ?_
                  intro gg cap W' hown hgrow hat hlt2
                  rw [← icells_snoc] at hown
                  have hS' := held_grow hS hgrow (fun j hj => by have := (hpv j hj).1; omega)
                  refine HK.out _ _ ⟨hS', 6, e1, e2, e3, q1, q2, true, z, .slice none 0 0, x9, x49, x52, x54, x55, x56, x59, x63, x64, x65, x68, (.slice (some ⟨g, 0, none⟩) 1 1), (.slice (some ⟨gg, 0, none⟩) (V.boot.length + 1) cap), rfl, rfl, hS', Nat.le_trans hBJ hgrow.size, hbe.grown hgrow hBJ (fun j hj => (hpv j hj).1), (fun j hj => by simp [Value.ownBlock] at hj), ?_, ?_, ?_, ?_, ?_, ?_, (he1), (he2), (he3), (fun h => absurd h (by omega)), (fun h => absurd h (by omega)), (fun h => absurd h (by omega)), La1.grow hgrow, La2.grow hgrow, Lane.app hown, ZB.grow3 hgrow hat, by omega⟩
                  · first | exact fun _ => rfl | exact g1 | exact fun _ => g1 (by omega) | exact fun h => absurd h (by omega)
                  · first | exact fun _ => rfl | exact g2 | exact fun _ => g2 (by omega) | exact fun h => absurd h (by omega)
                  · first | exact fun _ => rfl | exact g3 | exact fun _ => g3 (by omega) | exact fun h => absurd h (by omega)
                  · first | exact fun _ => rfl | exact k1' | exact fun _ => k1' (by omega) | exact fun _ => hq | exact fun h => absurd h (by omega)
                  · first | exact fun _ => rfl | exact k2' | exact fun _ => k2' (by omega) | exact fun _ => hq | exact fun h => absurd h (by omega)
                  · first | exact fun _ => rfl | exact k3' | exact fun _ => k3' (by omega) | exact fun _ => hq | exact fun h => absurd h (by omega)
                · simp only [List.getElem?_toArray, List.getElem?_cons_succ, List.getElem?_cons_zero, Option.some.injEq] at ho
                  subst ho
                  have h2 : decide (6 ≤ p) = true := hall ⟨25, .data⟩ (by simp) rfl
                  rw [decide_eq_true_eq] at h2
                  omega
                · have hq : z = false := h0
                  refine wpOp_step (o := ?oo27) ?ho27 (fun K' hK => ?_)
                  case ho27 => simp only [List.getElem?_toArray, List.getElem?_cons_zero, List.getElem?_cons_succ]; rfl
                  have HK := Lib.hid hK
                  clear hK
                  go_simp
                  have hbW : Below W.heap.size W (W.alloc (.cells #[.int .i64 0, .slice none 0 0, .slice none 0 0, .slice none 0 0] 41)) := (Below.refl _ _).alloc (Nat.le_refl _) _
                  have hS' := held_keep hS hbW
                  refine HK.out _ _ ⟨hS', p, e1, e2, e3, q1, q2, q3, true, pv, (.pointer (some ⟨W.heap.size, 0, none⟩)), x49, x52, x54, x55, x56, x59, x63, x64, x65, x68, x70, x71, rfl, rfl, hS', Nat.le_trans hBJ hbW.size, below_more hbe hBJ hbW, (fun j hj => ⟨(hpv j hj).1, Nat.lt_of_lt_of_le (hpv j hj).2 hbW.size⟩), ?_, ?_, ?_, ?_, ?_, ?_, (he1), (he2), (he3), (fun h => ⟨(o1 h).1, own_below hbW (o1 h).2⟩), (fun h => ⟨(o2 h).1, own_below hbW (o2 h).2⟩), (fun h => ⟨(o3 h).1, own_below hbW (o3 h).2⟩), La1.alloc _, La2.alloc _, La3.alloc _, (ZBox.mk' hBJ (fun j hj => (hpv j hj).2) (fun d j hj => ((La1.done d).2.1.lt j hj).2) (fun d j hj => ((La2.done d).2.1.lt j hj).2) (fun d j hj => ((La3.done d).2.1.lt j hj).2)), by omega⟩
                  · first | exact fun _ => rfl | exact g1 | exact fun _ => g1 (by omega) | exact fun h => absurd h (by omega)
                  · first | exact fun _ => rfl | exact g2 | exact fun _ => g2 (by omega) | exact fun h => absurd h (by omega)
                  · first | exact fun _ => rfl | exact g3 | exact fun _ => g3 (by omega) | exact fun h => absurd h (by omega)
                  · first | exact fun _ => rfl | exact k1' | exact fun _ => k1' (by omega) | exact fun _ => hq | exact fun h => absurd h (by omega)
                  · first | exact fun _ => rfl | exact k2' | exact fun _ => k2' (by omega) | exact fun _ => hq | exact fun h => absurd h (by omega)
                  · first | exact fun _ => rfl | exact k3' | exact fun _ => k3' (by omega) | exact fun _ => hq | exact fun h => absurd h (by omega)
                · simp only [List.getElem?_toArray, List.getElem?_cons_succ, List.getElem?_cons_zero, Option.some.injEq] at ho
                  subst ho
                  have h2 : false = true := hall ⟨26, .data⟩ (by simp) rfl
                  cases h2
          · refine ⟨0, false, false, false, false, false, false, false, .slice none 0 0, undef, undef, undef, undef, undef, undef, undef, undef, undef, undef, undef, undef, undef, rfl, rfl, hHeld, by rw [hB0]; exact Nat.le_refl _, Below.refl _ _, (fun j hj => by simp [Value.ownBlock] at hj), (fun h => absurd h (by omega)), (fun h => absurd h (by omega)), (fun h => absurd h (by omega)), (fun h => absurd h (by omega)), (fun h => absurd h (by omega)), (fun h => absurd h (by omega)), (fun h => by cases h), (fun h => by cases h), (fun h => by cases h), (fun h => absurd h (by omega)), (fun h => absurd h (by omega)), (fun h => absurd h (by omega)), ⟨(fun h => by cases h), (fun _ h => by cases h)⟩, ⟨(fun h => by cases h), (fun _ h => by cases h)⟩, ⟨(fun h => by cases h), (fun _ h => by cases h)⟩, ⟨fun h => by cases h⟩, by omega⟩
        case rest =>
          obtain ⟨gz, r1, m1, r2, m2, r3, m3, rfl, hgz, hgb, ow1, ow2, ow3, hfin⟩ := hcut
          obtain ⟨u0, u1, u2, u3⟩ := block_cells hgb
          obtain ⟨y0, y1, y2, y3⟩ := box_cells hfin
          obtain ⟨z0, z1, z2, z3⟩ := res_cells hfin
          have f0 := res_frozen hfin 0
          have f1 := res_frozen hfin 1
          have f2 := res_frozen hfin 2
          have f3 := res_frozen hfin 3
          have OW1 := Lib.hid ow1
          have OW2 := Lib.hid ow2
          have OW3 := Lib.hid ow3
          clear ow1 ow2 ow3
          go_wp2_with fail
          (try simp only [Exit.inBlock, Exit.then])
          refine bodyPost_ret (ret_cell4 rfl _ _ _ _ _ _ _ _ _ _ _ _ _ (by rfl) (res_block hfin) Try.underlying41 rfl rvinfo) rfl ?_
          refine ⟨_, rfl, ⟨⟨by simp only; omega, by simp only; omega⟩, _, _, _, rfl, ?_, ?_, ?_⟩, below_set4 (below_two' hfin) _ (by omega) _ _ _ _⟩
          · exact own_ints (own_set4 OW1.out (w.heap.size + 1) (by omega) _ _ _ _) (fun n hn => by
              rcases List.mem_append.1 hn with hn | hn
              · exact H1.out.at_.2.2.2.2.1 n hn
              · rw [List.mem_singleton] at hn; subst hn; exact hx64)
          · exact own_ints (own_set4 OW2.out (w.heap.size + 1) (by omega) _ _ _ _) (fun n hn => by
              rcases List.mem_append.1 hn with hn | hn
              · exact H2.out.at_.2.2.2.2.1 n hn
              · rw [List.mem_singleton] at hn; subst hn; constructor <;> omega)
          · exact own_ints (own_set4 OW3.out (w.heap.size + 1) (by omega) _ _ _ _) (fun n hn => by
              rcases List.mem_append.1 hn with hn | hn
              · exact H3.out.at_.2.2.2.2.1 n hn
              · rw [List.mem_singleton] at hn; subst hn; exact hb64)
    · have C1 := Lib.hid (hC1 _ hp)
      rw [if_pos (by omega)] at hA
      obtain ⟨rfl, rfl⟩ : zeroV = A ∧ 7 = c := by
        injection hA with e1 e2
        exact ⟨e1, e2⟩
      have g1 : (0 : Int) ≤ (i : Int) := by omega
      clear hC1 hp hA
      go_enter Try.func37, Try.ntmps37
      go_wp2_with fail
      refine (C2'.out _ ?_).mono ?_
      · exact below_two _ _
      rintro e w1 ⟨rfl, hb1⟩
      have hb12 : Below (w.heap.size + 2) _ w1 := hb1.mono (by simp)
      obtain ⟨y0, y1, y2, y3⟩ := box_cells hb12
      obtain ⟨z0, z1, z2, z3⟩ := res_cells hb12
      have f0 := res_frozen hb12 0
      have f1 := res_frozen hb12 1
      have f2 := res_frozen hb12 2
      have f3 := res_frozen hb12 3
      go_wp2_with fail
      refine (C1.out _ (below_two' hb12)).mono ?_
      rintro e w2 ⟨rfl, hb2⟩
      replace hb12 := below_more hb12 (size_two hb12) hb2
      obtain ⟨y0, y1, y2, y3⟩ := box_cells hb12
      obtain ⟨z0, z1, z2, z3⟩ := res_cells hb12
      have f0 := res_frozen hb12 0
      have f1 := res_frozen hb12 1
      have f2 := res_frozen hb12 2
      have f3 := res_frozen hb12 3
      go_wp2_with fail
      all_goals
        (try simp only [Exit.inBlock, Exit.then])
        first
          | (exfalso; omega)
          | (refine bodyPost_ret (ret_cell4 rfl _ _ _ _ _ _ _ _ _ _ _ _ _ (by rfl) (res_block hb12) Try.underlying41 rfl rvinfo) rfl ?_
             refine ⟨_, rfl, view_nil _ _, below_set4 (below_two' hb12) _ (by omega) _ _ _ _⟩)

end Go.Proofs.Ytigojackdkaanaa
