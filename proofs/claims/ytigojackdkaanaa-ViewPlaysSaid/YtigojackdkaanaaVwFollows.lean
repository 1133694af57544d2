/-
  The walks of view.same and view.Follows. Printed by gen_vwfollows.py of this claim's writer.
-/
import Derived.Test.YtigojackdkaanaaVwShown
import Derived.Test.YtigojackdkaanaaRegInv
import Derived.BigQuiet
import Derived.Deep.DeepCutAuto
namespace Go.Proofs.Ytigojackdkaanaa
open Go.RowKit

theorem block_cells {w : World} {g : Nat} {a0 a1 a2 a3 : Value} {t : TypeId} (h : w.heap[g]? = some (.cells #[a0, a1, a2, a3] t)) :
    w.cell? ⟨g, 0, none⟩ = some a0 ∧ w.cell? ⟨g, 1, none⟩ = some a1 ∧ w.cell? ⟨g, 2, none⟩ = some a2 ∧ w.cell? ⟨g, 3, none⟩ = some a3 :=
  ⟨by rw [cell_of_row w g 0 _ _ _ h]; rfl, by rw [cell_of_row w g 1 _ _ _ h]; rfl, by rw [cell_of_row w g 2 _ _ _ h]; rfl, by rw [cell_of_row w g 3 _ _ _ h]; rfl⟩
theorem block_frozen {w : World} {g : Nat} {cs : Array Value} {t : TypeId} (h : w.heap[g]? = some (.cells cs t)) :
    w.frozen? ⟨g, 0, none⟩ = false ∧ w.frozen? ⟨g, 1, none⟩ = false ∧ w.frozen? ⟨g, 2, none⟩ = false ∧ w.frozen? ⟨g, 3, none⟩ = false := by
  refine ⟨?_, ?_, ?_, ?_⟩ <;> simp [World.frozen?, h]
theorem ints_set_hi {B : Nat} {w : World} {v : Value} {l : List Int} (h : IsInts B w v l) (g o : Nat) (hg : B ≤ g) (x : Value) : IsInts B (w.setCell ⟨g, o, none⟩ x) v l := by
  obtain ⟨a, cap, rfl, h1, h2, h3, h4, h5⟩ := h
  refine ⟨a, cap, rfl, h1, h2, h3, h4, fun hp => ?_⟩
  obtain ⟨b, off, rfl, hlt, hc⟩ := h5 hp
  refine ⟨b, off, rfl, hlt, fun i hi => ?_⟩
  rw [World.cell?_setCell_other _ _ _ _ (by simp only [ne_eq, Addr.mk.injEq]; omega)]
  exact hc i hi
theorem view_set4_hi {B : Nat} {w : World} {v : Value} {V : VW} (h : IsView B w v V) (g : Nat) (hg : B ≤ g) (v0 v1 v2 v3 : Value) :
    IsView B ((((w.setCell ⟨g, 0, none⟩ v0).setCell ⟨g, 1, none⟩ v1).setCell ⟨g, 2, none⟩ v2).setCell ⟨g, 3, none⟩ v3) v V := by
  obtain ⟨h0, c, s, b, rfl, h1, h2, h3⟩ := h
  have f := fun {v : Value} {l : List Int} (h : IsInts B w v l) => ints_set_hi (ints_set_hi (ints_set_hi (ints_set_hi h g 0 hg v0) g 1 hg v1) g 2 hg v2) g 3 hg v3
  exact ⟨h0, _, _, _, rfl, f h1, f h2, f h3⟩

set_option maxRecDepth 100000 in
set_option maxHeartbeats 1600000 in
theorem vsame_any (B B2 : Nat) (v u : Value) (V U : VW) (w : World) (h : IsView B w v V) (h2 : IsView B2 w u U) (hB : B ≤ w.heap.size) (hB2 : B2 ≤ w.heap.size) (hsm : SmallV V) (hsm2 : SmallV U) (b : Bool) (hb : b = sameV V U) :
    Calls Try.prog 62 #[v, u] w fun e w' => e = .returned (.bool b) ∧ Below w.heap.size w w' := by
  obtain ⟨he, cc, s, bt, rfl, h1, h2', h3⟩ := h
  have H1 := Lib.hid h1
  have H2 := Lib.hid h2'
  have H3 := Lib.hid h3
  obtain ⟨a1, k1, rfl⟩ := h1.form
  obtain ⟨a2, k2, rfl⟩ := h2'.form
  obtain ⟨a3, k3, rfl⟩ := h3.form
  obtain ⟨he2, cc, s, bt, rfl, g1, g2, g3⟩ := h2
  have G1 := Lib.hid g1
  have G2 := Lib.hid g2
  have G3 := Lib.hid g3
  obtain ⟨b1, m1, rfl⟩ := g1.form
  obtain ⟨b2, m2, rfl⟩ := g2.form
  obtain ⟨b3, m3, rfl⟩ := g3.form
  clear h1 h2' h3 g1 g2 g3
  obtain ⟨s1, s2, s3⟩ := hsm
  obtain ⟨t1, t2, t3⟩ := hsm2
  have D1 := Lib.hid (fun (b : Bool) (hb : b = decide (V.chain = U.chain)) (w1 : World) (hb1 : Below w.heap.size w w1) => equal_any B B2 _ _ V.chain U.chain w1 (H1.out.keep hb1 hB) (G1.out.keep hb1 hB2) (by omega) (by omega) b hb)
  have D2 := Lib.hid (fun (b : Bool) (hb : b = decide (V.since = U.since)) (w1 : World) (hb1 : Below w.heap.size w w1) => equal_any B B2 _ _ V.since U.since w1 (H2.out.keep hb1 hB) (G2.out.keep hb1 hB2) (by omega) (by omega) b hb)
  have D3 := Lib.hid (fun (b : Bool) (hb : b = decide (V.boot = U.boot)) (w1 : World) (hb1 : Below w.heap.size w w1) => equal_any B B2 _ _ V.boot U.boot w1 (H3.out.keep hb1 hB) (G3.out.keep hb1 hB2) (by omega) (by omega) b hb)
  by_cases q0 : V.epoch = U.epoch
  · have Q0 := Lib.hid q0
    have e0 : (V.epoch == U.epoch) = true := by rw [beq_iff_eq]; exact q0
    clear q0
    by_cases q1 : V.chain = U.chain
    · have Q1 := Lib.hid q1
      have E1 := Lib.hid (D1.out true (by first | exact (decide_eq_true q1).symm | exact (decide_eq_false q1).symm))
      clear q1
      by_cases q2 : V.since = U.since
      · have Q2 := Lib.hid q2
        have E2 := Lib.hid (D2.out true (by first | exact (decide_eq_true q2).symm | exact (decide_eq_false q2).symm))
        clear q2
        have E3 := Lib.hid (D3.out b (by rw [hb, sameV]; exact decide_eq_decide.2 ⟨fun h => h.2.2.2, fun h => ⟨Q0.out, Q1.out, Q2.out, h⟩⟩))
        clear hb
        go_enter Try.func62, Try.ntmps62
        go_wp2_with fail
        have bx0 := Below.refl (w.heap.size + 2) ((w.alloc (.cells #[.int .i64 V.epoch, .slice a1 V.chain.length k1, .slice a2 V.since.length k2, .slice a3 V.boot.length k3] 24)).alloc (.cells #[.int .i64 U.epoch, .slice b1 U.chain.length m1, .slice b2 U.since.length m2, .slice b3 U.boot.length m3] 24))
        refine (E1.out _ (below_two' bx0)).mono ?_
        rintro e w1 ⟨rfl, hb1⟩
        have bx1 := below_more bx0 (size_two bx0) hb1
        obtain ⟨y0, y1, y2, y3⟩ := box_cells bx1
        obtain ⟨z0, z1, z2, z3⟩ := res_cells bx1
        go_wp2_with fail
        refine (E2.out _ (below_two' bx1)).mono ?_
        rintro e w2 ⟨rfl, hb2⟩
        have bx2 := below_more bx1 (size_two bx1) hb2
        obtain ⟨y0, y1, y2, y3⟩ := box_cells bx2
        obtain ⟨z0, z1, z2, z3⟩ := res_cells bx2
        go_wp2_with fail
        refine (E3.out _ (below_two' bx2)).mono ?_
        rintro e w3 ⟨rfl, hb3⟩
        have bx3 := below_more bx2 (size_two bx2) hb3
        go_wp2_with fail
        go_ret
        exact ⟨rfl, below_two' bx3⟩
      · obtain rfl : false = b := by rw [hb]; exact (sameV_no fun h => q2 h.2.2.1).symm
        have E2 := Lib.hid (D2.out false (by first | exact (decide_eq_true q2).symm | exact (decide_eq_false q2).symm))
        clear q2 hb
        go_enter Try.func62, Try.ntmps62
        go_wp2_with fail
        have bx0 := Below.refl (w.heap.size + 2) ((w.alloc (.cells #[.int .i64 V.epoch, .slice a1 V.chain.length k1, .slice a2 V.since.length k2, .slice a3 V.boot.length k3] 24)).alloc (.cells #[.int .i64 U.epoch, .slice b1 U.chain.length m1, .slice b2 U.since.length m2, .slice b3 U.boot.length m3] 24))
        refine (E1.out _ (below_two' bx0)).mono ?_
        rintro e w1 ⟨rfl, hb1⟩
        have bx1 := below_more bx0 (size_two bx0) hb1
        obtain ⟨y0, y1, y2, y3⟩ := box_cells bx1
        obtain ⟨z0, z1, z2, z3⟩ := res_cells bx1
        go_wp2_with fail
        refine (E2.out _ (below_two' bx1)).mono ?_
        rintro e w2 ⟨rfl, hb2⟩
        have bx2 := below_more bx1 (size_two bx1) hb2
        obtain ⟨y0, y1, y2, y3⟩ := box_cells bx2
        obtain ⟨z0, z1, z2, z3⟩ := res_cells bx2
        go_wp2_with fail
        go_ret
        exact ⟨rfl, below_two' bx2⟩
    · obtain rfl : false = b := by rw [hb]; exact (sameV_no fun h => q1 h.2.1).symm
      have E1 := Lib.hid (D1.out false (by first | exact (decide_eq_true q1).symm | exact (decide_eq_false q1).symm))
      clear q1 hb
      go_enter Try.func62, Try.ntmps62
      go_wp2_with fail
      have bx0 := Below.refl (w.heap.size + 2) ((w.alloc (.cells #[.int .i64 V.epoch, .slice a1 V.chain.length k1, .slice a2 V.since.length k2, .slice a3 V.boot.length k3] 24)).alloc (.cells #[.int .i64 U.epoch, .slice b1 U.chain.length m1, .slice b2 U.since.length m2, .slice b3 U.boot.length m3] 24))
      refine (E1.out _ (below_two' bx0)).mono ?_
      rintro e w1 ⟨rfl, hb1⟩
      have bx1 := below_more bx0 (size_two bx0) hb1
      obtain ⟨y0, y1, y2, y3⟩ := box_cells bx1
      obtain ⟨z0, z1, z2, z3⟩ := res_cells bx1
      go_wp2_with fail
      go_ret
      exact ⟨rfl, below_two' bx1⟩
  · obtain rfl : false = b := by rw [hb]; exact (sameV_no fun h => q0 h.1).symm
    have e0 : (V.epoch == U.epoch) = false := by rw [beq_eq_false_iff_ne]; exact q0
    clear q0 hb
    go_enter Try.func62, Try.ntmps62
    go_wp2_with fail
    go_ret
    exact ⟨rfl, below_two _ _⟩

set_option maxRecDepth 100000 in
set_option maxHeartbeats 3200000 in
theorem follows_with (B B2 : Nat) (v u : Value) (V U : VW) (w : World) (h : IsView B w v V) (h2 : IsView B2 w u U) (hB : B ≤ w.heap.size) (hB2 : B2 ≤ w.heap.size) (hsm : SmallV V) (hsm2 : SmallV U)
    (hR : RightV V) (hRU : RightV U) (x i : Int) (hx : I64 x) (hi : I64 i) (hw : withV V x i = (U, 0)) (ht : tailV U = x) (hbo : bootV U x = i) :
    Calls Try.prog 23 #[v, u] w fun e w' => e = .returned (.bool true) ∧ Below w.heap.size w w' := by
  have HV := Lib.hid h
  have HU := Lib.hid h2
  obtain ⟨he, cc, s, bt, rfl, h1, h2', h3⟩ := h
  have H1 := Lib.hid h1
  have H2 := Lib.hid h2'
  have H3 := Lib.hid h3
  obtain ⟨a1, k1, rfl⟩ := h1.form
  obtain ⟨a2, k2, rfl⟩ := h2'.form
  obtain ⟨a3, k3, rfl⟩ := h3.form
  obtain ⟨he2, cc, s, bt, rfl, g1, g2, g3⟩ := h2
  have G1 := Lib.hid g1
  have G2 := Lib.hid g2
  have G3 := Lib.hid g3
  obtain ⟨b1, m1, rfl⟩ := g1.form
  obtain ⟨b2, m2, rfl⟩ := g2.form
  obtain ⟨b3, m3, rfl⟩ := g3.form
  clear h1 h2' h3 g1 g2 g3
  have R1 := Lib.hid (fun (w1 : World) (hb1 : Below w.heap.size w w1) => right_any B _ V w1 (HV.out.keep hb1 hB) (Nat.le_trans hB hb1.size) hsm true (rightB_of hR).symm)
  have R2 := Lib.hid (fun (w1 : World) (hb1 : Below w.heap.size w w1) => right_any B2 _ U w1 (HU.out.keep hb1 hB2) (Nat.le_trans hB2 hb1.size) hsm2 true (rightB_of hRU).symm)
  have R3 := Lib.hid (fun (w1 : World) (hb1 : Below w.heap.size w w1) => tail_any B2 _ U x ht w1 (HU.out.keep hb1 hB2) (Nat.le_trans hB2 hb1.size) hsm2)
  have R4 := Lib.hid (fun (w1 : World) (hb1 : Below w.heap.size w w1) => boot_any B2 _ U x i hbo w1 (HU.out.keep hb1 hB2) (Nat.le_trans hB2 hb1.size) hsm2)
  have R5 := Lib.hid (fun (w1 : World) (hb1 : Below w.heap.size w w1) => with_fresh B _ V x i U 0 hw w1 (HV.out.keep hb1 hB) (Nat.le_trans hB hb1.size) hsm hx hi)
  clear hR hRU hw ht hbo
  go_enter Try.func23, Try.ntmps23
  go_wp2_with fail
  have bx0 := Below.refl (w.heap.size + 2) ((w.alloc (.cells #[.int .i64 V.epoch, .slice a1 V.chain.length k1, .slice a2 V.since.length k2, .slice a3 V.boot.length k3] 24)).alloc (.cells #[.int .i64 U.epoch, .slice b1 U.chain.length m1, .slice b2 U.since.length m2, .slice b3 U.boot.length m3] 24))
  refine (R1.out _ (below_two' bx0)).mono ?_
  rintro e w1 ⟨rfl, hb1⟩
  have bx1 := below_more bx0 (size_two bx0) hb1
  obtain ⟨y0, y1, y2, y3⟩ := box_cells bx1
  obtain ⟨z0, z1, z2, z3⟩ := res_cells bx1
  go_wp2_with fail
  refine (R2.out _ (below_two' bx1)).mono ?_
  rintro e w2 ⟨rfl, hb2⟩
  have bx2 := below_more bx1 (size_two bx1) hb2
  have mkS : ∀ X : World, Below (w.heap.size + 2) ((w.alloc (.cells #[.int .i64 V.epoch, .slice a1 V.chain.length k1, .slice a2 V.since.length k2, .slice a3 V.boot.length k3] 24)).alloc (.cells #[.int .i64 U.epoch, .slice b1 U.chain.length m1, .slice b2 U.since.length m2, .slice b3 U.boot.length m3] 24)) X → X.cell? ⟨w.heap.size, 0, none⟩ = some (.int .i64 V.epoch) ∧ X.cell? ⟨w.heap.size, 1, none⟩ = some (.slice a1 V.chain.length k1) ∧ X.cell? ⟨w.heap.size, 2, none⟩ = some (.slice a2 V.since.length k2) ∧ X.cell? ⟨w.heap.size, 3, none⟩ = some (.slice a3 V.boot.length k3) ∧ X.cell? ⟨w.heap.size + 1, 0, none⟩ = some (.int .i64 U.epoch) ∧ X.cell? ⟨w.heap.size + 1, 1, none⟩ = some (.slice b1 U.chain.length m1) ∧ X.cell? ⟨w.heap.size + 1, 2, none⟩ = some (.slice b2 U.since.length m2) ∧ X.cell? ⟨w.heap.size + 1, 3, none⟩ = some (.slice b3 U.boot.length m3) ∧ w.heap.size + 2 ≤ X.heap.size ∧ Below (w.heap.size + 2) ((w.alloc (.cells #[.int .i64 V.epoch, .slice a1 V.chain.length k1, .slice a2 V.since.length k2, .slice a3 V.boot.length k3] 24)).alloc (.cells #[.int .i64 U.epoch, .slice b1 U.chain.length m1, .slice b2 U.since.length m2, .slice b3 U.boot.length m3] 24)) X := by
    intro X hk'
    obtain ⟨u0, u1, u2, u3⟩ := box_cells hk'
    obtain ⟨t0, t1, t2, t3⟩ := res_cells hk'
    exact ⟨u0, u1, u2, u3, t0, t1, t2, t3, size_two hk', hk'⟩
  have hh := mkS w2.drew bx2.drew
  have keep : ∀ X X' : World, (X.cell? ⟨w.heap.size, 0, none⟩ = some (.int .i64 V.epoch) ∧ X.cell? ⟨w.heap.size, 1, none⟩ = some (.slice a1 V.chain.length k1) ∧ X.cell? ⟨w.heap.size, 2, none⟩ = some (.slice a2 V.since.length k2) ∧ X.cell? ⟨w.heap.size, 3, none⟩ = some (.slice a3 V.boot.length k3) ∧ X.cell? ⟨w.heap.size + 1, 0, none⟩ = some (.int .i64 U.epoch) ∧ X.cell? ⟨w.heap.size + 1, 1, none⟩ = some (.slice b1 U.chain.length m1) ∧ X.cell? ⟨w.heap.size + 1, 2, none⟩ = some (.slice b2 U.since.length m2) ∧ X.cell? ⟨w.heap.size + 1, 3, none⟩ = some (.slice b3 U.boot.length m3) ∧ w.heap.size + 2 ≤ X.heap.size ∧ Below (w.heap.size + 2) ((w.alloc (.cells #[.int .i64 V.epoch, .slice a1 V.chain.length k1, .slice a2 V.since.length k2, .slice a3 V.boot.length k3] 24)).alloc (.cells #[.int .i64 U.epoch, .slice b1 U.chain.length m1, .slice b2 U.since.length m2, .slice b3 U.boot.length m3] 24)) X) → Below X.heap.size X X' → X'.cell? ⟨w.heap.size, 0, none⟩ = some (.int .i64 V.epoch) ∧ X'.cell? ⟨w.heap.size, 1, none⟩ = some (.slice a1 V.chain.length k1) ∧ X'.cell? ⟨w.heap.size, 2, none⟩ = some (.slice a2 V.since.length k2) ∧ X'.cell? ⟨w.heap.size, 3, none⟩ = some (.slice a3 V.boot.length k3) ∧ X'.cell? ⟨w.heap.size + 1, 0, none⟩ = some (.int .i64 U.epoch) ∧ X'.cell? ⟨w.heap.size + 1, 1, none⟩ = some (.slice b1 U.chain.length m1) ∧ X'.cell? ⟨w.heap.size + 1, 2, none⟩ = some (.slice b2 U.since.length m2) ∧ X'.cell? ⟨w.heap.size + 1, 3, none⟩ = some (.slice b3 U.boot.length m3) ∧ w.heap.size + 2 ≤ X'.heap.size ∧ Below (w.heap.size + 2) ((w.alloc (.cells #[.int .i64 V.epoch, .slice a1 V.chain.length k1, .slice a2 V.since.length k2, .slice a3 V.boot.length k3] 24)).alloc (.cells #[.int .i64 U.epoch, .slice b1 U.chain.length m1, .slice b2 U.since.length m2, .slice b3 U.boot.length m3] 24)) X' := fun X X' h k => mkS X' (below_more h.2.2.2.2.2.2.2.2.2 h.2.2.2.2.2.2.2.2.1 k)
  have low : ∀ X : World, (X.cell? ⟨w.heap.size, 0, none⟩ = some (.int .i64 V.epoch) ∧ X.cell? ⟨w.heap.size, 1, none⟩ = some (.slice a1 V.chain.length k1) ∧ X.cell? ⟨w.heap.size, 2, none⟩ = some (.slice a2 V.since.length k2) ∧ X.cell? ⟨w.heap.size, 3, none⟩ = some (.slice a3 V.boot.length k3) ∧ X.cell? ⟨w.heap.size + 1, 0, none⟩ = some (.int .i64 U.epoch) ∧ X.cell? ⟨w.heap.size + 1, 1, none⟩ = some (.slice b1 U.chain.length m1) ∧ X.cell? ⟨w.heap.size + 1, 2, none⟩ = some (.slice b2 U.since.length m2) ∧ X.cell? ⟨w.heap.size + 1, 3, none⟩ = some (.slice b3 U.boot.length m3) ∧ w.heap.size + 2 ≤ X.heap.size ∧ Below (w.heap.size + 2) ((w.alloc (.cells #[.int .i64 V.epoch, .slice a1 V.chain.length k1, .slice a2 V.since.length k2, .slice a3 V.boot.length k3] 24)).alloc (.cells #[.int .i64 U.epoch, .slice b1 U.chain.length m1, .slice b2 U.since.length m2, .slice b3 U.boot.length m3] 24)) X) → Below w.heap.size w X := fun X h => below_two' h.2.2.2.2.2.2.2.2.2
  have low2 : ∀ X : World, (X.cell? ⟨w.heap.size, 0, none⟩ = some (.int .i64 V.epoch) ∧ X.cell? ⟨w.heap.size, 1, none⟩ = some (.slice a1 V.chain.length k1) ∧ X.cell? ⟨w.heap.size, 2, none⟩ = some (.slice a2 V.since.length k2) ∧ X.cell? ⟨w.heap.size, 3, none⟩ = some (.slice a3 V.boot.length k3) ∧ X.cell? ⟨w.heap.size + 1, 0, none⟩ = some (.int .i64 U.epoch) ∧ X.cell? ⟨w.heap.size + 1, 1, none⟩ = some (.slice b1 U.chain.length m1) ∧ X.cell? ⟨w.heap.size + 1, 2, none⟩ = some (.slice b2 U.since.length m2) ∧ X.cell? ⟨w.heap.size + 1, 3, none⟩ = some (.slice b3 U.boot.length m3) ∧ w.heap.size + 2 ≤ X.heap.size ∧ Below (w.heap.size + 2) ((w.alloc (.cells #[.int .i64 V.epoch, .slice a1 V.chain.length k1, .slice a2 V.since.length k2, .slice a3 V.boot.length k3] 24)).alloc (.cells #[.int .i64 U.epoch, .slice b1 U.chain.length m1, .slice b2 U.since.length m2, .slice b3 U.boot.length m3] 24)) X) → Below (w.heap.size + 2) ((w.alloc (.cells #[.int .i64 V.epoch, .slice a1 V.chain.length k1, .slice a2 V.since.length k2, .slice a3 V.boot.length k3] 24)).alloc (.cells #[.int .i64 U.epoch, .slice b1 U.chain.length m1, .slice b2 U.since.length m2, .slice b3 U.boot.length m3] 24)) X := fun X h => h.2.2.2.2.2.2.2.2.2
  clear y0 y1 y2 y3 z0 z1 z2 z3
  go_upto_region 3 with fail
  go_cut [5, 6] (fun s5 s6 wx => ∃ g c1 l1 c2 l2 c3 l3, s5 = .pointer (some ⟨g, 0, none⟩) ∧ s6 = .int .i64 0 ∧ w.heap.size + 2 ≤ g ∧ wx.heap[g]? = some (.cells #[.int .i64 U.epoch, .slice c1 U.chain.length l1, .slice c2 U.since.length l2, .slice c3 U.boot.length l3] 24) ∧ IsView wx.heap.size wx (.agg #[.int .i64 U.epoch, .slice c1 U.chain.length l1, .slice c2 U.since.length l2, .slice c3 U.boot.length l3]) U ∧ Below (w.heap.size + 2) ((w.alloc (.cells #[.int .i64 V.epoch, .slice a1 V.chain.length k1, .slice a2 V.since.length k2, .slice a3 V.boot.length k3] 24)).alloc (.cells #[.int .i64 U.epoch, .slice b1 U.chain.length m1, .slice b2 U.since.length m2, .slice b3 U.boot.length m3] 24)) wx)
  case first =>
    refine region_begin (S := fun X => X.cell? ⟨w.heap.size, 0, none⟩ = some (.int .i64 V.epoch) ∧ X.cell? ⟨w.heap.size, 1, none⟩ = some (.slice a1 V.chain.length k1) ∧ X.cell? ⟨w.heap.size, 2, none⟩ = some (.slice a2 V.since.length k2) ∧ X.cell? ⟨w.heap.size, 3, none⟩ = some (.slice a3 V.boot.length k3) ∧ X.cell? ⟨w.heap.size + 1, 0, none⟩ = some (.int .i64 U.epoch) ∧ X.cell? ⟨w.heap.size + 1, 1, none⟩ = some (.slice b1 U.chain.length m1) ∧ X.cell? ⟨w.heap.size + 1, 2, none⟩ = some (.slice b2 U.since.length m2) ∧ X.cell? ⟨w.heap.size + 1, 3, none⟩ = some (.slice b3 U.boot.length m3) ∧ w.heap.size + 2 ≤ X.heap.size ∧ Below (w.heap.size + 2) ((w.alloc (.cells #[.int .i64 V.epoch, .slice a1 V.chain.length k1, .slice a2 V.since.length k2, .slice a3 V.boot.length k3] 24)).alloc (.cells #[.int .i64 U.epoch, .slice b1 U.chain.length m1, .slice b2 U.since.length m2, .slice b3 U.boot.length m3] 24)) X) 14 rfl (by kernel_rfl) hh (fun hHeld => ?_)
    refine wpAnyH_take (i := 0) (oi := ?oa0) (v := ?va0) ?hia0 (by kernel_rfl) (by kernel_rfl) (by kernel_rfl) ?hQa0 ?hya0 hHeld ?resta0
    case hia0 => simp only [List.getElem?_toArray, List.getElem?_cons_zero]; rfl
    case hQa0 => exact fun _ _ _ h => h
    case hya0 => refine Or.inl ⟨by rfl, ?_⟩; intro W hSw; (try dsimp only at hSw); go_simp; try with_reducible rfl
    simp only [Act.put, List.setIfInBounds_toArray, List.set_cons_zero, List.set_cons_succ]
    refine wpAnyH_take (i := 1) (oi := ?oa1) (v := ?va1) ?hia1 (by kernel_rfl) (by kernel_rfl) (by kernel_rfl) ?hQa1 ?hya1 hHeld ?resta1
    case hia1 => simp only [List.getElem?_toArray, List.getElem?_cons_zero, List.getElem?_cons_succ]; rfl
    case hQa1 => exact fun _ _ _ h => h
    case hya1 => refine Or.inl ⟨by rfl, ?_⟩; intro W hSw; (try dsimp only at hSw); go_simp; try with_reducible rfl
    simp only [Act.put, List.setIfInBounds_toArray, List.set_cons_zero, List.set_cons_succ]
    refine wpAnyH_take (i := 3) (oi := ?oa3) (v := ?va3) ?hia3 (by kernel_rfl) (by kernel_rfl) (by kernel_rfl) ?hQa3 ?hya3 hHeld ?resta3
    case hia3 => simp only [List.getElem?_toArray, List.getElem?_cons_zero, List.getElem?_cons_succ]; rfl
    case hQa3 => exact fun _ _ _ h => h
    case hya3 => refine Or.inl ⟨by rfl, ?_⟩; intro W hSw; (try dsimp only at hSw); go_simp; try with_reducible rfl
    simp only [Act.put, List.setIfInBounds_toArray, List.set_cons_zero, List.set_cons_succ]
    refine wpAnyH_take (i := 4) (oi := ?oa4) (v := ?va4) ?hia4 (by kernel_rfl) (by kernel_rfl) (by kernel_rfl) ?hQa4 ?hya4 hHeld ?resta4
    case hia4 => simp only [List.getElem?_toArray, List.getElem?_cons_zero, List.getElem?_cons_succ]; rfl
    case hQa4 => exact fun _ _ _ h => h
    case hya4 => refine Or.inl ⟨by rfl, ?_⟩; intro W hSw; (try dsimp only at hSw); go_simp; try with_reducible rfl
    simp only [Act.put, List.setIfInBounds_toArray, List.set_cons_zero, List.set_cons_succ]
    refine wpAnyH_inv (fun listed a W => ∃ (p : Nat) (q : Bool) (g : Nat) (x5 x22 x25 x26 x27 : Value), listed = #[true, true, decide (1 ≤ p), true, true, decide (2 ≤ p), decide (3 ≤ p), decide (4 ≤ p), false, false, false, q, false, false] ∧ a = { tmps := #[Value.agg #[.int .i64 V.epoch, .slice a1 V.chain.length k1, .slice a2 V.since.length k2, .slice a3 V.boot.length k3], Value.agg #[.int .i64 U.epoch, .slice b1 U.chain.length m1, .slice b2 U.since.length m2, .slice b3 U.boot.length m3], Value.pointer (some ⟨w.heap.size, 0, none⟩), Value.pointer (some ⟨w.heap.size + 1, 0, none⟩), Value.bool false, x5, undef, undef, undef, undef, undef, Value.agg #[.int .i64 V.epoch, .slice a1 V.chain.length k1, .slice a2 V.since.length k2, .slice a3 V.boot.length k3], Value.bool true, Value.bool false, Value.bool false, Value.agg #[.int .i64 U.epoch, .slice b1 U.chain.length m1, .slice b2 U.since.length m2, .slice b3 U.boot.length m3], Value.bool true, Value.bool false, Value.bool false, undef, Value.agg #[.int .i64 V.epoch, .slice a1 V.chain.length k1, .slice a2 V.since.length k2, .slice a3 V.boot.length k3], Value.agg #[.int .i64 U.epoch, .slice b1 U.chain.length m1, .slice b2 U.since.length m2, .slice b3 U.boot.length m3], x22, Value.agg #[.int .i64 U.epoch, .slice b1 U.chain.length m1, .slice b2 U.since.length m2, .slice b3 U.boot.length m3], Value.agg #[.int .i64 U.epoch, .slice b1 U.chain.length m1, .slice b2 U.since.length m2, .slice b3 U.boot.length m3], x25, x26, x27, undef, undef, undef, undef, undef, undef, undef, undef, undef, undef, undef, undef, undef, undef, undef, undef, undef, undef, undef, undef, undef, undef, undef, undef, undef, undef, undef, undef, undef, undef], defers := [] } ∧ (W.cell? ⟨w.heap.size, 0, none⟩ = some (.int .i64 V.epoch) ∧ W.cell? ⟨w.heap.size, 1, none⟩ = some (.slice a1 V.chain.length k1) ∧ W.cell? ⟨w.heap.size, 2, none⟩ = some (.slice a2 V.since.length k2) ∧ W.cell? ⟨w.heap.size, 3, none⟩ = some (.slice a3 V.boot.length k3) ∧ W.cell? ⟨w.heap.size + 1, 0, none⟩ = some (.int .i64 U.epoch) ∧ W.cell? ⟨w.heap.size + 1, 1, none⟩ = some (.slice b1 U.chain.length m1) ∧ W.cell? ⟨w.heap.size + 1, 2, none⟩ = some (.slice b2 U.since.length m2) ∧ W.cell? ⟨w.heap.size + 1, 3, none⟩ = some (.slice b3 U.boot.length m3) ∧ w.heap.size + 2 ≤ W.heap.size ∧ Below (w.heap.size + 2) ((w.alloc (.cells #[.int .i64 V.epoch, .slice a1 V.chain.length k1, .slice a2 V.since.length k2, .slice a3 V.boot.length k3] 24)).alloc (.cells #[.int .i64 U.epoch, .slice b1 U.chain.length m1, .slice b2 U.since.length m2, .slice b3 U.boot.length m3] 24)) W) ∧ (q = true → x5 = .pointer (some ⟨g, 0, none⟩) ∧ w.heap.size + 2 ≤ g ∧ W.heap[g]? = some (.cells #[.int .i64 0, .slice none 0 0, .slice none 0 0, .slice none 0 0] 24)) ∧ (1 ≤ p → x22 = .int .i64 x) ∧ (2 ≤ p → x25 = .int .i64 x) ∧ (3 ≤ p → x26 = .int .i64 i) ∧ (4 ≤ p → ∃ c1 l1 c2 l2 c3 l3, x27 = .tuple #[.agg #[.int .i64 U.epoch, .slice c1 U.chain.length l1, .slice c2 U.since.length l2, .slice c3 U.boot.length l3], .int .i64 0] ∧ IsView W.heap.size W (.agg #[.int .i64 U.epoch, .slice c1 U.chain.length l1, .slice c2 U.since.length l2, .slice c3 U.boot.length l3]) U ∧ (q = true → ∀ v0 v1 v2 v3, IsView W.heap.size ((((W.setCell ⟨g, 0, none⟩ v0).setCell ⟨g, 1, none⟩ v1).setCell ⟨g, 2, none⟩ v2).setCell ⟨g, 3, none⟩ v3) (.agg #[.int .i64 U.epoch, .slice c1 U.chain.length l1, .slice c2 U.since.length l2, .slice c3 U.boot.length l3]) U)) ∧ p ≤ 4) ?_ _ _ _ _ ?_ (by kernel_rfl) (by simp)
    · intro listed a W hJ
      obtain ⟨p, q, g, x5, x22, x25, x26, x27, rfl, rfl, hS, hq5, f1, f2, f3, f4, hp4⟩ := hJ
      by_cases hex : p = 4
      · right
        obtain rfl : p = 4 := hex
        obtain ⟨c1, l1, c2, l2, c3, l3, rfl, hva, hset⟩ := f4 (by omega)
        clear f1 f2 f3 f4 hp4
        intro m hm
        cases q with
        | true =>
          obtain ⟨rfl, hgl, hgb⟩ := hq5 rfl
          replace hset := hset rfl
          clear hq5
          obtain ⟨m', rfl⟩ : ∃ m', m = m' + 5 := ⟨m - 5, by simp at hm; omega⟩
          clear hm
          refine wpAnyH_take (i := 8) (oi := ?ob8) (v := ?vb8) ?hib8 (by kernel_rfl) (by kernel_rfl) (by kernel_rfl) ?hQb8 ?hyb8 hS ?restb8
          case hib8 => simp only [List.getElem?_toArray, List.getElem?_cons_zero, List.getElem?_cons_succ]; rfl
          case hQb8 => exact fun _ _ _ h => h
          case hyb8 => refine Or.inl ⟨by rfl, ?_⟩; intro W hSw; (try dsimp only at hSw); go_simp; try with_reducible rfl
          simp only [Act.put, List.setIfInBounds_toArray, List.set_cons_zero, List.set_cons_succ]
          refine wpAnyH_take (i := 9) (oi := ?ob9) (v := ?vb9) ?hib9 (by kernel_rfl) (by kernel_rfl) (by kernel_rfl) ?hQb9 ?hyb9 hS ?restb9
          case hib9 => simp only [List.getElem?_toArray, List.getElem?_cons_zero, List.getElem?_cons_succ]; rfl
          case hQb9 => exact fun _ _ _ h => h
          case hyb9 => refine Or.inl ⟨by rfl, ?_⟩; intro W hSw; (try dsimp only at hSw); go_simp; try with_reducible rfl
          simp only [Act.put, List.setIfInBounds_toArray, List.set_cons_zero, List.set_cons_succ]
          refine wpAnyH_take (i := 10) (oi := ?ob10) (v := ?vb10) ?hib10 (by kernel_rfl) (by kernel_rfl) (by kernel_rfl) ?hQb10 ?hyb10 hS ?restb10
          case hib10 => simp only [List.getElem?_toArray, List.getElem?_cons_zero, List.getElem?_cons_succ]; rfl
          case hQb10 => exact fun _ _ _ h => h
          case hyb10 => refine Or.inl ⟨by rfl, ?_⟩; intro W hSw; (try dsimp only at hSw); go_simp; try with_reducible rfl
          simp only [Act.put, List.setIfInBounds_toArray, List.set_cons_zero, List.set_cons_succ]
          obtain ⟨u0, u1, u2, u3⟩ := block_cells hgb
          obtain ⟨fz0, fz1, fz2, fz3⟩ := block_frozen hgb
          refine wpAnyH_ready (rs := [12]) (by kernel_rfl) (by simp) ?_
          refine AllReadyH.cons (o := ?oot) ?hot (fun K' hK => ?_) AllReadyH.nil
          case hot => simp only [List.getElem?_toArray, List.getElem?_cons_zero, List.getElem?_cons_succ]; rfl
          go_simp
          have bxs := below_set4 (low2 _ hS) g hgl (.int .i64 U.epoch) (.slice c1 U.chain.length l1) (.slice c2 U.since.length l2) (.slice c3 U.boot.length l3)
          refine hK.out _ _ (mkS _ bxs) (fun hS2 => ?_)
          clear hK
          refine wpAnyH_take (i := 13) (oi := ?ob13t) (v := ?vb13t) ?hib13t (by kernel_rfl) (by kernel_rfl) (by kernel_rfl) ?hQb13t ?hyb13t hS2 ?restb13t
          case hib13t => simp only [List.getElem?_toArray, List.getElem?_cons_zero, List.getElem?_cons_succ]; rfl
          case hQb13t => exact fun _ _ _ h => h
          case hyb13t => refine Or.inl ⟨by rfl, ?_⟩; intro W hSw; (try dsimp only at hSw); go_simp; try with_reducible rfl
          simp only [Act.put, List.setIfInBounds_toArray, List.set_cons_zero, List.set_cons_succ]
          refine wpAnyH_done (by kernel_rfl) ?_ _
          have hvs := hset (.int .i64 U.epoch) (.slice c1 U.chain.length l1) (.slice c2 U.since.length l2) (.slice c3 U.boot.length l3)
          have hbs := block_set (block_set (block_set (block_set hgb 0 (.int .i64 U.epoch)) 1 (.slice c1 U.chain.length l1)) 2 (.slice c2 U.since.length l2)) 3 (.slice c3 U.boot.length l3)
          clear hgb hset u0 u1 u2 u3 fz0 fz1 fz2 fz3
          go_wp2
          all_goals go_meet
          all_goals
            case rel => exact ⟨g, c1, l1, c2, l2, c3, l3, rfl, rfl, hgl, hbs, by simpa using hvs, bxs⟩
        | false =>
          clear hset hq5
          obtain ⟨m', rfl⟩ : ∃ m', m = m' + 6 := ⟨m - 6, by simp at hm; omega⟩
          clear hm
          refine wpAnyH_take (i := 8) (oi := ?oc8) (v := ?vc8) ?hic8 (by kernel_rfl) (by kernel_rfl) (by kernel_rfl) ?hQc8 ?hyc8 hS ?restc8
          case hic8 => simp only [List.getElem?_toArray, List.getElem?_cons_zero, List.getElem?_cons_succ]; rfl
          case hQc8 => exact fun _ _ _ h => h
          case hyc8 => refine Or.inl ⟨by rfl, ?_⟩; intro W hSw; (try dsimp only at hSw); go_simp; try with_reducible rfl
          simp only [Act.put, List.setIfInBounds_toArray, List.set_cons_zero, List.set_cons_succ]
          refine wpAnyH_take (i := 9) (oi := ?oc9) (v := ?vc9) ?hic9 (by kernel_rfl) (by kernel_rfl) (by kernel_rfl) ?hQc9 ?hyc9 hS ?restc9
          case hic9 => simp only [List.getElem?_toArray, List.getElem?_cons_zero, List.getElem?_cons_succ]; rfl
          case hQc9 => exact fun _ _ _ h => h
          case hyc9 => refine Or.inl ⟨by rfl, ?_⟩; intro W hSw; (try dsimp only at hSw); go_simp; try with_reducible rfl
          simp only [Act.put, List.setIfInBounds_toArray, List.set_cons_zero, List.set_cons_succ]
          refine wpAnyH_take (i := 10) (oi := ?oc10) (v := ?vc10) ?hic10 (by kernel_rfl) (by kernel_rfl) (by kernel_rfl) ?hQc10 ?hyc10 hS ?restc10
          case hic10 => simp only [List.getElem?_toArray, List.getElem?_cons_zero, List.getElem?_cons_succ]; rfl
          case hQc10 => exact fun _ _ _ h => h
          case hyc10 => refine Or.inl ⟨by rfl, ?_⟩; intro W hSw; (try dsimp only at hSw); go_simp; try with_reducible rfl
          simp only [Act.put, List.setIfInBounds_toArray, List.set_cons_zero, List.set_cons_succ]
          refine wpAnyH_ready (rs := [11]) (by kernel_rfl) (by simp) ?_
          refine AllReadyH.cons (o := ?oo11z) ?ho11z (fun K' hK => ?_) AllReadyH.nil
          case ho11z => simp only [List.getElem?_toArray, List.getElem?_cons_zero, List.getElem?_cons_succ]; rfl
          go_simp
          have hbW : Below W.heap.size W (W.alloc (.cells #[.int .i64 0, .slice none 0 0, .slice none 0 0, .slice none 0 0] 24)) := (Below.refl _ _).alloc (Nat.le_refl _) _
          refine hK.out _ _ (keep _ _ hS hbW) (fun hS1 => ?_)
          clear hK
          have hgb := heap_alloc_new W (.cells #[.int .i64 0, .slice none 0 0, .slice none 0 0, .slice none 0 0] 24)
          have hgl := hS.2.2.2.2.2.2.2.2.1
          have hset := fun v0 v1 v2 v3 => (view_set4_hi (hva.keep hbW (Nat.le_refl _)) W.heap.size (Nat.le_refl _) v0 v1 v2 v3).up hbW.size
          clear hbW hva hS
          generalize W.heap.size = g at hgb hgl hset ⊢
          generalize W.alloc (.cells #[.int .i64 0, .slice none 0 0, .slice none 0 0, .slice none 0 0] 24) = W1 at hgb hset hS1 ⊢
          have hS := hS1
          clear hS1
          obtain ⟨u0, u1, u2, u3⟩ := block_cells hgb
          obtain ⟨fz0, fz1, fz2, fz3⟩ := block_frozen hgb
          refine wpAnyH_ready (rs := [12]) (by kernel_rfl) (by simp) ?_
          refine AllReadyH.cons (o := ?oof) ?hof (fun K' hK => ?_) AllReadyH.nil
          case hof => simp only [List.getElem?_toArray, List.getElem?_cons_zero, List.getElem?_cons_succ]; rfl
          go_simp
          have bxs := below_set4 (low2 _ hS) g hgl (.int .i64 U.epoch) (.slice c1 U.chain.length l1) (.slice c2 U.since.length l2) (.slice c3 U.boot.length l3)
          refine hK.out _ _ (mkS _ bxs) (fun hS2 => ?_)
          clear hK
          refine wpAnyH_take (i := 13) (oi := ?ob13f) (v := ?vb13f) ?hib13f (by kernel_rfl) (by kernel_rfl) (by kernel_rfl) ?hQb13f ?hyb13f hS2 ?restb13f
          case hib13f => simp only [List.getElem?_toArray, List.getElem?_cons_zero, List.getElem?_cons_succ]; rfl
          case hQb13f => exact fun _ _ _ h => h
          case hyb13f => refine Or.inl ⟨by rfl, ?_⟩; intro W hSw; (try dsimp only at hSw); go_simp; try with_reducible rfl
          simp only [Act.put, List.setIfInBounds_toArray, List.set_cons_zero, List.set_cons_succ]
          refine wpAnyH_done (by kernel_rfl) ?_ _
          have hvs := hset (.int .i64 U.epoch) (.slice c1 U.chain.length l1) (.slice c2 U.since.length l2) (.slice c3 U.boot.length l3)
          have hbs := block_set (block_set (block_set (block_set hgb 0 (.int .i64 U.epoch)) 1 (.slice c1 U.chain.length l1)) 2 (.slice c2 U.since.length l2)) 3 (.slice c3 U.boot.length l3)
          clear hgb hset u0 u1 u2 u3 fz0 fz1 fz2 fz3
          go_wp2
          all_goals go_meet
          all_goals
            case rel => exact ⟨g, c1, l1, c2, l2, c3, l3, rfl, rfl, hgl, hbs, by simpa using hvs, bxs⟩
      · left
        refine ⟨?_, fun i hi => ?_⟩
        · rcases (by omega : p = 0 ∨ p = 1 ∨ p = 2 ∨ p = 3) with rfl | rfl | rfl | rfl
          all_goals (cases q <;> decide +kernel)
        · obtain ⟨h0, o, ho, hall⟩ := mem_ready.1 hi
          have hlt : i < 14 := by
            rcases Nat.lt_or_ge i 14 with h | h
            · exact h
            · rw [Array.getElem?_eq_none (by simpa using h)] at ho; cases ho
          rcases (by omega : i = 0 ∨ i = 1 ∨ i = 2 ∨ i = 3 ∨ i = 4 ∨ i = 5 ∨ i = 6 ∨ i = 7 ∨ i = 8 ∨ i = 9 ∨ i = 10 ∨ i = 11 ∨ i = 12 ∨ i = 13) with rfl | rfl | rfl | rfl | rfl | rfl | rfl | rfl | rfl | rfl | rfl | rfl | rfl | rfl
          · cases h0
          · cases h0
          · have hp0 : p = 0 := by
              have h1 : decide (1 ≤ p) = false := h0
              simp only [decide_eq_false_iff_not] at h1
              omega
            subst hp0
            refine wpOp_step (o := ?oo2) ?ho2 (fun K' hK => ?_)
            case ho2 => simp only [List.getElem?_toArray, List.getElem?_cons_zero, List.getElem?_cons_succ]; rfl
            have HK := Lib.hid hK
            clear hK
            go_simp
            refine (R3.out W (low _ hS)).mono ?_
            rintro e W' ⟨rfl, hbW⟩
            have hS' := keep _ _ hS hbW
            exact HK.out _ _ ⟨hS', 1, q, g, x5, (.int .i64 x), x25, x26, x27, rfl, rfl, hS', (fun hq => ⟨(hq5 hq).1, (hq5 hq).2.1, (hbW.block g (Array.getElem?_eq_some_iff.1 (hq5 hq).2.2).1).trans (hq5 hq).2.2⟩), (fun _ => rfl), (fun h => absurd h (by omega)), (fun h => absurd h (by omega)), (fun h => absurd h (by omega)), by omega⟩
          · cases h0
          · cases h0
          · simp only [List.getElem?_toArray, List.getElem?_cons_succ, List.getElem?_cons_zero, Option.some.injEq] at ho
            subst ho
            have hp0 : p = 1 := by
              have h1 : decide (2 ≤ p) = false := h0
              have h2 : decide (1 ≤ p) = true := hall ⟨2, .chain⟩ (by simp) rfl
              simp only [decide_eq_false_iff_not, decide_eq_true_eq] at h1 h2
              omega
            subst hp0
            obtain rfl := f1 (by omega)
            refine wpOp_step (o := ?oo5) ?ho5 (fun K' hK => ?_)
            case ho5 => simp only [List.getElem?_toArray, List.getElem?_cons_zero, List.getElem?_cons_succ]; rfl
            have HK := Lib.hid hK
            clear hK
            go_simp
            refine (R3.out W (low _ hS)).mono ?_
            rintro e W' ⟨rfl, hbW⟩
            have hS' := keep _ _ hS hbW
            exact HK.out _ _ ⟨hS', 2, q, g, x5, (.int .i64 x), (.int .i64 x), x26, x27, rfl, rfl, hS', (fun hq => ⟨(hq5 hq).1, (hq5 hq).2.1, (hbW.block g (Array.getElem?_eq_some_iff.1 (hq5 hq).2.2).1).trans (hq5 hq).2.2⟩), (fun _ => rfl), (fun _ => rfl), (fun h => absurd h (by omega)), (fun h => absurd h (by omega)), by omega⟩
          · simp only [List.getElem?_toArray, List.getElem?_cons_succ, List.getElem?_cons_zero, Option.some.injEq] at ho
            subst ho
            have hp0 : p = 2 := by
              have h1 : decide (3 ≤ p) = false := h0
              have h2 : decide (2 ≤ p) = true := hall ⟨5, .chain⟩ (by simp) rfl
              simp only [decide_eq_false_iff_not, decide_eq_true_eq] at h1 h2
              omega
            subst hp0
            obtain rfl := f1 (by omega)
            obtain rfl := f2 (by omega)
            refine wpOp_step (o := ?oo6) ?ho6 (fun K' hK => ?_)
            case ho6 => simp only [List.getElem?_toArray, List.getElem?_cons_zero, List.getElem?_cons_succ]; rfl
            have HK := Lib.hid hK
            clear hK
            go_simp
            refine (R4.out W (low _ hS)).mono ?_
            rintro e W' ⟨rfl, hbW⟩
            have hS' := keep _ _ hS hbW
            exact HK.out _ _ ⟨hS', 3, q, g, x5, (.int .i64 x), (.int .i64 x), (.int .i64 i), x27, rfl, rfl, hS', (fun hq => ⟨(hq5 hq).1, (hq5 hq).2.1, (hbW.block g (Array.getElem?_eq_some_iff.1 (hq5 hq).2.2).1).trans (hq5 hq).2.2⟩), (fun _ => rfl), (fun _ => rfl), (fun _ => rfl), (fun h => absurd h (by omega)), by omega⟩
          · simp only [List.getElem?_toArray, List.getElem?_cons_succ, List.getElem?_cons_zero, Option.some.injEq] at ho
            subst ho
            have hp0 : p = 3 := by
              have h1 : decide (4 ≤ p) = false := h0
              have h2 : decide (3 ≤ p) = true := hall ⟨6, .chain⟩ (by simp) rfl
              simp only [decide_eq_false_iff_not, decide_eq_true_eq] at h1 h2
              omega
            subst hp0
            obtain rfl := f1 (by omega)
            obtain rfl := f2 (by omega)
            obtain rfl := f3 (by omega)
            refine wpOp_step (o := ?oo7) ?ho7 (fun K' hK => ?_)
            case ho7 => simp only [List.getElem?_toArray, List.getElem?_cons_zero, List.getElem?_cons_succ]; rfl
            have HK := Lib.hid hK
            clear hK
            go_simp
            refine (R5.out W (low _ hS)).mono ?_
            rintro e W' ⟨va, rfl, hva, hbW, hfr⟩
            have hva0 := hva
            obtain ⟨c1, l1, c2, l2, c3, l3, rfl⟩ := hva0.form
            have hS' := keep _ _ hS hbW
            exact HK.out _ _ ⟨hS', 4, q, g, x5, (.int .i64 x), (.int .i64 x), (.int .i64 i), (.tuple #[.agg #[.int .i64 U.epoch, .slice c1 U.chain.length l1, .slice c2 U.since.length l2, .slice c3 U.boot.length l3], .int .i64 0]), rfl, rfl, hS', (fun hq => ⟨(hq5 hq).1, (hq5 hq).2.1, (hbW.block g (Array.getElem?_eq_some_iff.1 (hq5 hq).2.2).1).trans (hq5 hq).2.2⟩), (fun _ => rfl), (fun _ => rfl), (fun _ => rfl), (fun _ => ⟨c1, l1, c2, l2, c3, l3, rfl, hva, fun hq v0 v1 v2 v3 => view_set4 hva hfr g (Array.getElem?_eq_some_iff.1 (hq5 hq).2.2).1 v0 v1 v2 v3⟩), by omega⟩
          · simp only [List.getElem?_toArray, List.getElem?_cons_succ, List.getElem?_cons_zero, Option.some.injEq] at ho
            subst ho
            have h2 : decide (4 ≤ p) = true := hall ⟨7, .data⟩ (by simp) rfl
            rw [decide_eq_true_eq] at h2
            omega
          · simp only [List.getElem?_toArray, List.getElem?_cons_succ, List.getElem?_cons_zero, Option.some.injEq] at ho
            subst ho
            have h2 : false = true := hall ⟨8, .data⟩ (by simp) rfl
            cases h2
          · simp only [List.getElem?_toArray, List.getElem?_cons_succ, List.getElem?_cons_zero, Option.some.injEq] at ho
            subst ho
            have h2 : false = true := hall ⟨8, .data⟩ (by simp) rfl
            cases h2
          · have hq : q = false := h0
            subst hq
            refine wpOp_step (o := ?oo11) ?ho11 (fun K' hK => ?_)
            case ho11 => simp only [List.getElem?_toArray, List.getElem?_cons_zero, List.getElem?_cons_succ]; rfl
            have HK := Lib.hid hK
            clear hK
            go_simp
            have hbW : Below W.heap.size W (W.alloc (.cells #[.int .i64 0, .slice none 0 0, .slice none 0 0, .slice none 0 0] 24)) := (Below.refl _ _).alloc (Nat.le_refl _) _
            have hS' := keep _ _ hS hbW
            exact HK.out _ _ ⟨hS', p, true, W.heap.size, (.pointer (some ⟨W.heap.size, 0, none⟩)), x22, x25, x26, x27, rfl, rfl, hS', (fun _ => ⟨rfl, hS.2.2.2.2.2.2.2.2.1, heap_alloc_new _ _⟩), f1, f2, f3, (fun h => absurd h (by omega)), by omega⟩
          · simp only [List.getElem?_toArray, List.getElem?_cons_succ, List.getElem?_cons_zero, Option.some.injEq] at ho
            subst ho
            have h2 : false = true := hall ⟨9, .data⟩ (by simp) rfl
            cases h2
          · simp only [List.getElem?_toArray, List.getElem?_cons_succ, List.getElem?_cons_zero, Option.some.injEq] at ho
            subst ho
            have h2 : false = true := hall ⟨12, .chain⟩ (by simp) rfl
            cases h2
    · exact ⟨0, false, 0, undef, undef, undef, undef, undef, rfl, rfl, hHeld, (fun h => by cases h), (fun h => absurd h (by omega)), (fun h => absurd h (by omega)), (fun h => absurd h (by omega)), (fun h => absurd h (by omega)), by omega⟩
  case rest =>
    obtain ⟨g, c1, l1, c2, l2, c3, l3, rfl, rfl, hgl, hgb, hvx, bxe⟩ := hcut
    obtain ⟨u0, u1, u2, u3⟩ := block_cells hgb
    obtain ⟨y0, y1, y2, y3⟩ := box_cells bxe
    obtain ⟨z0, z1, z2, z3⟩ := res_cells bxe
    clear hgb
    have HVX := Lib.hid hvx
    clear hvx
    go_wp2_with fail
    refine (vsame_any _ B2 _ _ U U _ HVX.out (HU.out.keep (below_two' bxe) hB2) (Nat.le_refl _) (Nat.le_trans hB2 (below_two' bxe).size) hsm2 hsm2 true (sameV_self U).symm).mono ?_
    rintro e wf ⟨rfl, hbf⟩
    go_wp2_with fail
    go_ret
    exact ⟨rfl, bstep (below_two' bxe) hbf⟩

theorem bootV_64 {V : VW} (h : RightV V) (x : Int) : I64 (bootV V x) := by
  rw [bootV]
  split
  · rename_i hp
    obtain ⟨_, i, hi, e, _⟩ := placeV_lt hp
    have hb : i < V.boot.length := by rw [h.b]; exact hi
    rw [e, atI, if_neg (by omega), Int.toNat_natCast, getD_lt hb]
    have := h.list.br _ (List.getElem_mem hb)
    constructor <;> omega
  · constructor <;> decide

/-- What Follows meets, where the second view is the first one without a node. -/
theorem without_follow {V U : VW} {x y : Int} (hR : RightV V) (hRU : RightV U) (hw : withoutV V x = (U, 0)) (hy : tailV U = y) (b : Int) (hb : bootV U y = b) :
    I64 y ∧ withV V y b = (zeroV, 7) ∧ ∃ j, j < V.chain.length ∧ ∀ k, (hk : k < V.chain.length) → ∀ n, V.chain[k] = n → ∃ A, withoutV V n = (A, 0) ∧ SmallV A ∧ (k = j → A = U) := by
  have c1 : ¬ (rightB V = false) := by rw [rightB_of hR]; decide
  by_cases c2 : placeV V x < 0
  · rw [withoutV, if_neg c1, if_pos c2] at hw; cases hw
  by_cases c3 : V.chain.length = 1
  · rw [withoutV, if_neg c1, if_neg c2, if_pos c3] at hw; cases hw
  by_cases c4 : V.epoch = 274877906944
  · rw [withoutV, if_neg c1, if_neg c2, if_neg c3, if_pos c4] at hw; cases hw
  obtain ⟨_, j, hj, h1, h2⟩ := placeV_lt (V := V) (x := x) (by omega)
  have L := hR.list
  have n2 := L.n2
  have hs := L.s
  have hbl := L.b
  have n1 := hRU.n1
  have eU : U = ⟨V.epoch + 1, V.chain.eraseIdx j, V.since.eraseIdx j, V.boot.eraseIdx j⟩ := by
    rw [withoutV_ok hR h1 c3 c4] at hw
    injection hw with e1 _
    exact e1.symm
  have hyU : y ∈ U.chain := by
    rw [← hy, tailV, if_pos (rightB_of hRU), getD_lt (by omega)]
    exact List.getElem_mem _
  have hyV : y ∈ V.chain := by
    rw [eU] at hyU
    exact mem_eraseIdx_mem hyU
  have cy := L.cr y hyV
  obtain ⟨q, hq, eq⟩ := List.getElem_of_mem hyV
  have hpy := place_at hR hq eq
  have hbr : 0 ≤ b ∧ b ≤ 274877906944 := by
    obtain ⟨q', hq', eq'⟩ := List.getElem_of_mem hyU
    have hb' : q' < U.boot.length := by rw [hRU.b]; exact hq'
    rw [boot_at hRU hq' eq', getD_lt hb'] at hb
    rw [← hb]
    exact hRU.list.br _ (List.getElem_mem hb')
  refine ⟨by constructor <;> omega, ?_, j, hj, fun k hk n hn => ⟨_, withoutV_ok hR (place_at hR hk hn) c3 c4, ?_, fun e => ?_⟩⟩
  · rw [withV, if_neg (by rw [rightB_of hR]; simp only [Bool.true_eq_false, false_or]; omega), if_pos (by omega)]
  · have := List.length_eraseIdx_le V.chain k
    have := List.length_eraseIdx_le V.since k
    have := List.length_eraseIdx_le V.boot k
    refine ⟨?_, ?_, ?_⟩ <;> simp only <;> omega
  · subst e
    exact eU.symm

set_option maxRecDepth 100000 in
set_option maxHeartbeats 3200000 in
theorem follows_without (B B2 : Nat) (v u : Value) (V U : VW) (w : World) (h : IsView B w v V) (h2 : IsView B2 w u U) (hB : B ≤ w.heap.size) (hB2 : B2 ≤ w.heap.size) (hsm : SmallV V) (hsm2 : SmallV U)
    (hR : RightV V) (hRU : RightV U) (x : Int) (hw : withoutV V x = (U, 0)) :
    Calls Try.prog 23 #[v, u] w fun e w' => e = .returned (.bool true) ∧ Below w.heap.size w w' := by
  have HV := Lib.hid h
  have HU := Lib.hid h2
  obtain ⟨he, cc, s, bt, rfl, h1, h2', h3⟩ := h
  have H1 := Lib.hid h1
  have H2 := Lib.hid h2'
  have H3 := Lib.hid h3
  obtain ⟨a1, k1, rfl⟩ := h1.form
  obtain ⟨a2, k2, rfl⟩ := h2'.form
  obtain ⟨a3, k3, rfl⟩ := h3.form
  obtain ⟨he2, cc, s, bt, rfl, g1, g2, g3⟩ := h2
  have G1 := Lib.hid g1
  have G2 := Lib.hid g2
  have G3 := Lib.hid g3
  obtain ⟨b1, m1, rfl⟩ := g1.form
  obtain ⟨b2, m2, rfl⟩ := g2.form
  obtain ⟨b3, m3, rfl⟩ := g3.form
  clear h1 h2' h3 g1 g2 g3
  have R1 := Lib.hid (fun (w1 : World) (hb1 : Below w.heap.size w w1) => right_any B _ V w1 (HV.out.keep hb1 hB) (Nat.le_trans hB hb1.size) hsm true (rightB_of hR).symm)
  have R2 := Lib.hid (fun (w1 : World) (hb1 : Below w.heap.size w w1) => right_any B2 _ U w1 (HU.out.keep hb1 hB2) (Nat.le_trans hB2 hb1.size) hsm2 true (rightB_of hRU).symm)
  obtain ⟨y, hy⟩ : ∃ y, tailV U = y := ⟨_, rfl⟩
  obtain ⟨i0, hi0⟩ : ∃ i, bootV U y = i := ⟨_, rfl⟩
  obtain ⟨fy, fw, j, hj, fj⟩ := without_follow hR hRU hw hy i0 hi0
  have hn6 := hR.n2
  have fb : I64 i0 := by
    rw [← hi0]
    exact bootV_64 hRU y
  have R3 := Lib.hid (fun (w1 : World) (hb1 : Below w.heap.size w w1) => tail_any B2 _ U y hy w1 (HU.out.keep hb1 hB2) (Nat.le_trans hB2 hb1.size) hsm2)
  have R4 := Lib.hid (fun (w1 : World) (hb1 : Below w.heap.size w w1) => boot_any B2 _ U y i0 hi0 w1 (HU.out.keep hb1 hB2) (Nat.le_trans hB2 hb1.size) hsm2)
  have R5 := Lib.hid (fun (w1 : World) (hb1 : Below w.heap.size w w1) => with_fresh B _ V y i0 zeroV 7 fw w1 (HV.out.keep hb1 hB) (Nat.le_trans hB hb1.size) hsm fy fb)
  have FJ := Lib.hid fj
  clear hR hRU hw hy hi0 fw fy fb fj
  go_enter Try.func23, Try.ntmps23
  go_wp2_with fail
  have bx0 := Below.refl (w.heap.size + 2) ((w.alloc (.cells #[.int .i64 V.epoch, .slice a1 V.chain.length k1, .slice a2 V.since.length k2, .slice a3 V.boot.length k3] 24)).alloc (.cells #[.int .i64 U.epoch, .slice b1 U.chain.length m1, .slice b2 U.since.length m2, .slice b3 U.boot.length m3] 24))
  refine (R1.out _ (below_two' bx0)).mono ?_
  rintro e w1 ⟨rfl, hb1⟩
  have bx1 := below_more bx0 (size_two bx0) hb1
  obtain ⟨y0, y1, y2, y3⟩ := box_cells bx1
  obtain ⟨z0, z1, z2, z3⟩ := res_cells bx1
  go_wp2_with fail
  refine (R2.out _ (below_two' bx1)).mono ?_
  rintro e w2 ⟨rfl, hb2⟩
  have bx2 := below_more bx1 (size_two bx1) hb2
  have mkS : ∀ X : World, Below (w.heap.size + 2) ((w.alloc (.cells #[.int .i64 V.epoch, .slice a1 V.chain.length k1, .slice a2 V.since.length k2, .slice a3 V.boot.length k3] 24)).alloc (.cells #[.int .i64 U.epoch, .slice b1 U.chain.length m1, .slice b2 U.since.length m2, .slice b3 U.boot.length m3] 24)) X → X.cell? ⟨w.heap.size, 0, none⟩ = some (.int .i64 V.epoch) ∧ X.cell? ⟨w.heap.size, 1, none⟩ = some (.slice a1 V.chain.length k1) ∧ X.cell? ⟨w.heap.size, 2, none⟩ = some (.slice a2 V.since.length k2) ∧ X.cell? ⟨w.heap.size, 3, none⟩ = some (.slice a3 V.boot.length k3) ∧ X.cell? ⟨w.heap.size + 1, 0, none⟩ = some (.int .i64 U.epoch) ∧ X.cell? ⟨w.heap.size + 1, 1, none⟩ = some (.slice b1 U.chain.length m1) ∧ X.cell? ⟨w.heap.size + 1, 2, none⟩ = some (.slice b2 U.since.length m2) ∧ X.cell? ⟨w.heap.size + 1, 3, none⟩ = some (.slice b3 U.boot.length m3) ∧ w.heap.size + 2 ≤ X.heap.size ∧ Below (w.heap.size + 2) ((w.alloc (.cells #[.int .i64 V.epoch, .slice a1 V.chain.length k1, .slice a2 V.since.length k2, .slice a3 V.boot.length k3] 24)).alloc (.cells #[.int .i64 U.epoch, .slice b1 U.chain.length m1, .slice b2 U.since.length m2, .slice b3 U.boot.length m3] 24)) X := by
    intro X hk'
    obtain ⟨u0, u1, u2, u3⟩ := box_cells hk'
    obtain ⟨t0, t1, t2, t3⟩ := res_cells hk'
    exact ⟨u0, u1, u2, u3, t0, t1, t2, t3, size_two hk', hk'⟩
  have hh := mkS w2.drew bx2.drew
  have keep : ∀ X X' : World, (X.cell? ⟨w.heap.size, 0, none⟩ = some (.int .i64 V.epoch) ∧ X.cell? ⟨w.heap.size, 1, none⟩ = some (.slice a1 V.chain.length k1) ∧ X.cell? ⟨w.heap.size, 2, none⟩ = some (.slice a2 V.since.length k2) ∧ X.cell? ⟨w.heap.size, 3, none⟩ = some (.slice a3 V.boot.length k3) ∧ X.cell? ⟨w.heap.size + 1, 0, none⟩ = some (.int .i64 U.epoch) ∧ X.cell? ⟨w.heap.size + 1, 1, none⟩ = some (.slice b1 U.chain.length m1) ∧ X.cell? ⟨w.heap.size + 1, 2, none⟩ = some (.slice b2 U.since.length m2) ∧ X.cell? ⟨w.heap.size + 1, 3, none⟩ = some (.slice b3 U.boot.length m3) ∧ w.heap.size + 2 ≤ X.heap.size ∧ Below (w.heap.size + 2) ((w.alloc (.cells #[.int .i64 V.epoch, .slice a1 V.chain.length k1, .slice a2 V.since.length k2, .slice a3 V.boot.length k3] 24)).alloc (.cells #[.int .i64 U.epoch, .slice b1 U.chain.length m1, .slice b2 U.since.length m2, .slice b3 U.boot.length m3] 24)) X) → Below X.heap.size X X' → X'.cell? ⟨w.heap.size, 0, none⟩ = some (.int .i64 V.epoch) ∧ X'.cell? ⟨w.heap.size, 1, none⟩ = some (.slice a1 V.chain.length k1) ∧ X'.cell? ⟨w.heap.size, 2, none⟩ = some (.slice a2 V.since.length k2) ∧ X'.cell? ⟨w.heap.size, 3, none⟩ = some (.slice a3 V.boot.length k3) ∧ X'.cell? ⟨w.heap.size + 1, 0, none⟩ = some (.int .i64 U.epoch) ∧ X'.cell? ⟨w.heap.size + 1, 1, none⟩ = some (.slice b1 U.chain.length m1) ∧ X'.cell? ⟨w.heap.size + 1, 2, none⟩ = some (.slice b2 U.since.length m2) ∧ X'.cell? ⟨w.heap.size + 1, 3, none⟩ = some (.slice b3 U.boot.length m3) ∧ w.heap.size + 2 ≤ X'.heap.size ∧ Below (w.heap.size + 2) ((w.alloc (.cells #[.int .i64 V.epoch, .slice a1 V.chain.length k1, .slice a2 V.since.length k2, .slice a3 V.boot.length k3] 24)).alloc (.cells #[.int .i64 U.epoch, .slice b1 U.chain.length m1, .slice b2 U.since.length m2, .slice b3 U.boot.length m3] 24)) X' := fun X X' h k => mkS X' (below_more h.2.2.2.2.2.2.2.2.2 h.2.2.2.2.2.2.2.2.1 k)
  have low : ∀ X : World, (X.cell? ⟨w.heap.size, 0, none⟩ = some (.int .i64 V.epoch) ∧ X.cell? ⟨w.heap.size, 1, none⟩ = some (.slice a1 V.chain.length k1) ∧ X.cell? ⟨w.heap.size, 2, none⟩ = some (.slice a2 V.since.length k2) ∧ X.cell? ⟨w.heap.size, 3, none⟩ = some (.slice a3 V.boot.length k3) ∧ X.cell? ⟨w.heap.size + 1, 0, none⟩ = some (.int .i64 U.epoch) ∧ X.cell? ⟨w.heap.size + 1, 1, none⟩ = some (.slice b1 U.chain.length m1) ∧ X.cell? ⟨w.heap.size + 1, 2, none⟩ = some (.slice b2 U.since.length m2) ∧ X.cell? ⟨w.heap.size + 1, 3, none⟩ = some (.slice b3 U.boot.length m3) ∧ w.heap.size + 2 ≤ X.heap.size ∧ Below (w.heap.size + 2) ((w.alloc (.cells #[.int .i64 V.epoch, .slice a1 V.chain.length k1, .slice a2 V.since.length k2, .slice a3 V.boot.length k3] 24)).alloc (.cells #[.int .i64 U.epoch, .slice b1 U.chain.length m1, .slice b2 U.since.length m2, .slice b3 U.boot.length m3] 24)) X) → Below w.heap.size w X := fun X h => below_two' h.2.2.2.2.2.2.2.2.2
  have low2 : ∀ X : World, (X.cell? ⟨w.heap.size, 0, none⟩ = some (.int .i64 V.epoch) ∧ X.cell? ⟨w.heap.size, 1, none⟩ = some (.slice a1 V.chain.length k1) ∧ X.cell? ⟨w.heap.size, 2, none⟩ = some (.slice a2 V.since.length k2) ∧ X.cell? ⟨w.heap.size, 3, none⟩ = some (.slice a3 V.boot.length k3) ∧ X.cell? ⟨w.heap.size + 1, 0, none⟩ = some (.int .i64 U.epoch) ∧ X.cell? ⟨w.heap.size + 1, 1, none⟩ = some (.slice b1 U.chain.length m1) ∧ X.cell? ⟨w.heap.size + 1, 2, none⟩ = some (.slice b2 U.since.length m2) ∧ X.cell? ⟨w.heap.size + 1, 3, none⟩ = some (.slice b3 U.boot.length m3) ∧ w.heap.size + 2 ≤ X.heap.size ∧ Below (w.heap.size + 2) ((w.alloc (.cells #[.int .i64 V.epoch, .slice a1 V.chain.length k1, .slice a2 V.since.length k2, .slice a3 V.boot.length k3] 24)).alloc (.cells #[.int .i64 U.epoch, .slice b1 U.chain.length m1, .slice b2 U.since.length m2, .slice b3 U.boot.length m3] 24)) X) → Below (w.heap.size + 2) ((w.alloc (.cells #[.int .i64 V.epoch, .slice a1 V.chain.length k1, .slice a2 V.since.length k2, .slice a3 V.boot.length k3] 24)).alloc (.cells #[.int .i64 U.epoch, .slice b1 U.chain.length m1, .slice b2 U.since.length m2, .slice b3 U.boot.length m3] 24)) X := fun X h => h.2.2.2.2.2.2.2.2.2
  clear y0 y1 y2 y3 z0 z1 z2 z3
  go_upto_region 3 with fail
  go_cut [5, 6] (fun s5 s6 wx => ∃ g c1 l1 c2 l2 c3 l3, s5 = .pointer (some ⟨g, 0, none⟩) ∧ s6 = .int .i64 7 ∧ w.heap.size + 2 ≤ g ∧ wx.heap[g]? = some (.cells #[.int .i64 zeroV.epoch, .slice c1 zeroV.chain.length l1, .slice c2 zeroV.since.length l2, .slice c3 zeroV.boot.length l3] 24) ∧ IsView wx.heap.size wx (.agg #[.int .i64 zeroV.epoch, .slice c1 zeroV.chain.length l1, .slice c2 zeroV.since.length l2, .slice c3 zeroV.boot.length l3]) zeroV ∧ Below (w.heap.size + 2) ((w.alloc (.cells #[.int .i64 V.epoch, .slice a1 V.chain.length k1, .slice a2 V.since.length k2, .slice a3 V.boot.length k3] 24)).alloc (.cells #[.int .i64 U.epoch, .slice b1 U.chain.length m1, .slice b2 U.since.length m2, .slice b3 U.boot.length m3] 24)) wx)
  case first =>
    refine region_begin (S := fun X => X.cell? ⟨w.heap.size, 0, none⟩ = some (.int .i64 V.epoch) ∧ X.cell? ⟨w.heap.size, 1, none⟩ = some (.slice a1 V.chain.length k1) ∧ X.cell? ⟨w.heap.size, 2, none⟩ = some (.slice a2 V.since.length k2) ∧ X.cell? ⟨w.heap.size, 3, none⟩ = some (.slice a3 V.boot.length k3) ∧ X.cell? ⟨w.heap.size + 1, 0, none⟩ = some (.int .i64 U.epoch) ∧ X.cell? ⟨w.heap.size + 1, 1, none⟩ = some (.slice b1 U.chain.length m1) ∧ X.cell? ⟨w.heap.size + 1, 2, none⟩ = some (.slice b2 U.since.length m2) ∧ X.cell? ⟨w.heap.size + 1, 3, none⟩ = some (.slice b3 U.boot.length m3) ∧ w.heap.size + 2 ≤ X.heap.size ∧ Below (w.heap.size + 2) ((w.alloc (.cells #[.int .i64 V.epoch, .slice a1 V.chain.length k1, .slice a2 V.since.length k2, .slice a3 V.boot.length k3] 24)).alloc (.cells #[.int .i64 U.epoch, .slice b1 U.chain.length m1, .slice b2 U.since.length m2, .slice b3 U.boot.length m3] 24)) X) 14 rfl (by kernel_rfl) hh (fun hHeld => ?_)
    refine wpAnyH_take (i := 0) (oi := ?oa0) (v := ?va0) ?hia0 (by kernel_rfl) (by kernel_rfl) (by kernel_rfl) ?hQa0 ?hya0 hHeld ?resta0
    case hia0 => simp only [List.getElem?_toArray, List.getElem?_cons_zero]; rfl
    case hQa0 => exact fun _ _ _ h => h
    case hya0 => refine Or.inl ⟨by rfl, ?_⟩; intro W hSw; (try dsimp only at hSw); go_simp; try with_reducible rfl
    simp only [Act.put, List.setIfInBounds_toArray, List.set_cons_zero, List.set_cons_succ]
    refine wpAnyH_take (i := 1) (oi := ?oa1) (v := ?va1) ?hia1 (by kernel_rfl) (by kernel_rfl) (by kernel_rfl) ?hQa1 ?hya1 hHeld ?resta1
    case hia1 => simp only [List.getElem?_toArray, List.getElem?_cons_zero, List.getElem?_cons_succ]; rfl
    case hQa1 => exact fun _ _ _ h => h
    case hya1 => refine Or.inl ⟨by rfl, ?_⟩; intro W hSw; (try dsimp only at hSw); go_simp; try with_reducible rfl
    simp only [Act.put, List.setIfInBounds_toArray, List.set_cons_zero, List.set_cons_succ]
    refine wpAnyH_take (i := 3) (oi := ?oa3) (v := ?va3) ?hia3 (by kernel_rfl) (by kernel_rfl) (by kernel_rfl) ?hQa3 ?hya3 hHeld ?resta3
    case hia3 => simp only [List.getElem?_toArray, List.getElem?_cons_zero, List.getElem?_cons_succ]; rfl
    case hQa3 => exact fun _ _ _ h => h
    case hya3 => refine Or.inl ⟨by rfl, ?_⟩; intro W hSw; (try dsimp only at hSw); go_simp; try with_reducible rfl
    simp only [Act.put, List.setIfInBounds_toArray, List.set_cons_zero, List.set_cons_succ]
    refine wpAnyH_take (i := 4) (oi := ?oa4) (v := ?va4) ?hia4 (by kernel_rfl) (by kernel_rfl) (by kernel_rfl) ?hQa4 ?hya4 hHeld ?resta4
    case hia4 => simp only [List.getElem?_toArray, List.getElem?_cons_zero, List.getElem?_cons_succ]; rfl
    case hQa4 => exact fun _ _ _ h => h
    case hya4 => refine Or.inl ⟨by rfl, ?_⟩; intro W hSw; (try dsimp only at hSw); go_simp; try with_reducible rfl
    simp only [Act.put, List.setIfInBounds_toArray, List.set_cons_zero, List.set_cons_succ]
    refine wpAnyH_inv (fun listed a W => ∃ (p : Nat) (q : Bool) (g : Nat) (x5 x22 x25 x26 x27 : Value), listed = #[true, true, decide (1 ≤ p), true, true, decide (2 ≤ p), decide (3 ≤ p), decide (4 ≤ p), false, false, false, q, false, false] ∧ a = { tmps := #[Value.agg #[.int .i64 V.epoch, .slice a1 V.chain.length k1, .slice a2 V.since.length k2, .slice a3 V.boot.length k3], Value.agg #[.int .i64 U.epoch, .slice b1 U.chain.length m1, .slice b2 U.since.length m2, .slice b3 U.boot.length m3], Value.pointer (some ⟨w.heap.size, 0, none⟩), Value.pointer (some ⟨w.heap.size + 1, 0, none⟩), Value.bool false, x5, undef, undef, undef, undef, undef, Value.agg #[.int .i64 V.epoch, .slice a1 V.chain.length k1, .slice a2 V.since.length k2, .slice a3 V.boot.length k3], Value.bool true, Value.bool false, Value.bool false, Value.agg #[.int .i64 U.epoch, .slice b1 U.chain.length m1, .slice b2 U.since.length m2, .slice b3 U.boot.length m3], Value.bool true, Value.bool false, Value.bool false, undef, Value.agg #[.int .i64 V.epoch, .slice a1 V.chain.length k1, .slice a2 V.since.length k2, .slice a3 V.boot.length k3], Value.agg #[.int .i64 U.epoch, .slice b1 U.chain.length m1, .slice b2 U.since.length m2, .slice b3 U.boot.length m3], x22, Value.agg #[.int .i64 U.epoch, .slice b1 U.chain.length m1, .slice b2 U.since.length m2, .slice b3 U.boot.length m3], Value.agg #[.int .i64 U.epoch, .slice b1 U.chain.length m1, .slice b2 U.since.length m2, .slice b3 U.boot.length m3], x25, x26, x27, undef, undef, undef, undef, undef, undef, undef, undef, undef, undef, undef, undef, undef, undef, undef, undef, undef, undef, undef, undef, undef, undef, undef, undef, undef, undef, undef, undef, undef, undef], defers := [] } ∧ (W.cell? ⟨w.heap.size, 0, none⟩ = some (.int .i64 V.epoch) ∧ W.cell? ⟨w.heap.size, 1, none⟩ = some (.slice a1 V.chain.length k1) ∧ W.cell? ⟨w.heap.size, 2, none⟩ = some (.slice a2 V.since.length k2) ∧ W.cell? ⟨w.heap.size, 3, none⟩ = some (.slice a3 V.boot.length k3) ∧ W.cell? ⟨w.heap.size + 1, 0, none⟩ = some (.int .i64 U.epoch) ∧ W.cell? ⟨w.heap.size + 1, 1, none⟩ = some (.slice b1 U.chain.length m1) ∧ W.cell? ⟨w.heap.size + 1, 2, none⟩ = some (.slice b2 U.since.length m2) ∧ W.cell? ⟨w.heap.size + 1, 3, none⟩ = some (.slice b3 U.boot.length m3) ∧ w.heap.size + 2 ≤ W.heap.size ∧ Below (w.heap.size + 2) ((w.alloc (.cells #[.int .i64 V.epoch, .slice a1 V.chain.length k1, .slice a2 V.since.length k2, .slice a3 V.boot.length k3] 24)).alloc (.cells #[.int .i64 U.epoch, .slice b1 U.chain.length m1, .slice b2 U.since.length m2, .slice b3 U.boot.length m3] 24)) W) ∧ (q = true → x5 = .pointer (some ⟨g, 0, none⟩) ∧ w.heap.size + 2 ≤ g ∧ W.heap[g]? = some (.cells #[.int .i64 0, .slice none 0 0, .slice none 0 0, .slice none 0 0] 24)) ∧ (1 ≤ p → x22 = .int .i64 y) ∧ (2 ≤ p → x25 = .int .i64 y) ∧ (3 ≤ p → x26 = .int .i64 i0) ∧ (4 ≤ p → ∃ c1 l1 c2 l2 c3 l3, x27 = .tuple #[.agg #[.int .i64 zeroV.epoch, .slice c1 zeroV.chain.length l1, .slice c2 zeroV.since.length l2, .slice c3 zeroV.boot.length l3], .int .i64 7] ∧ IsView W.heap.size W (.agg #[.int .i64 zeroV.epoch, .slice c1 zeroV.chain.length l1, .slice c2 zeroV.since.length l2, .slice c3 zeroV.boot.length l3]) zeroV ∧ (q = true → ∀ v0 v1 v2 v3, IsView W.heap.size ((((W.setCell ⟨g, 0, none⟩ v0).setCell ⟨g, 1, none⟩ v1).setCell ⟨g, 2, none⟩ v2).setCell ⟨g, 3, none⟩ v3) (.agg #[.int .i64 zeroV.epoch, .slice c1 zeroV.chain.length l1, .slice c2 zeroV.since.length l2, .slice c3 zeroV.boot.length l3]) zeroV)) ∧ p ≤ 4) ?_ _ _ _ _ ?_ (by kernel_rfl) (by simp)
    · intro listed a W hJ
      obtain ⟨p, q, g, x5, x22, x25, x26, x27, rfl, rfl, hS, hq5, f1, f2, f3, f4, hp4⟩ := hJ
      by_cases hex : p = 4
      · right
        obtain rfl : p = 4 := hex
        obtain ⟨c1, l1, c2, l2, c3, l3, rfl, hva, hset⟩ := f4 (by omega)
        clear f1 f2 f3 f4 hp4
        intro m hm
        cases q with
        | true =>
          obtain ⟨rfl, hgl, hgb⟩ := hq5 rfl
          replace hset := hset rfl
          clear hq5
          obtain ⟨m', rfl⟩ : ∃ m', m = m' + 5 := ⟨m - 5, by simp at hm; omega⟩
          clear hm
          refine wpAnyH_take (i := 8) (oi := ?ob8) (v := ?vb8) ?hib8 (by kernel_rfl) (by kernel_rfl) (by kernel_rfl) ?hQb8 ?hyb8 hS ?restb8
          case hib8 => simp only [List.getElem?_toArray, List.getElem?_cons_zero, List.getElem?_cons_succ]; rfl
          case hQb8 => exact fun _ _ _ h => h
          case hyb8 => refine Or.inl ⟨by rfl, ?_⟩; intro W hSw; (try dsimp only at hSw); go_simp; try with_reducible rfl
          simp only [Act.put, List.setIfInBounds_toArray, List.set_cons_zero, List.set_cons_succ]
          refine wpAnyH_take (i := 9) (oi := ?ob9) (v := ?vb9) ?hib9 (by kernel_rfl) (by kernel_rfl) (by kernel_rfl) ?hQb9 ?hyb9 hS ?restb9
          case hib9 => simp only [List.getElem?_toArray, List.getElem?_cons_zero, List.getElem?_cons_succ]; rfl
          case hQb9 => exact fun _ _ _ h => h
          case hyb9 => refine Or.inl ⟨by rfl, ?_⟩; intro W hSw; (try dsimp only at hSw); go_simp; try with_reducible rfl
          simp only [Act.put, List.setIfInBounds_toArray, List.set_cons_zero, List.set_cons_succ]
          refine wpAnyH_take (i := 10) (oi := ?ob10) (v := ?vb10) ?hib10 (by kernel_rfl) (by kernel_rfl) (by kernel_rfl) ?hQb10 ?hyb10 hS ?restb10
          case hib10 => simp only [List.getElem?_toArray, List.getElem?_cons_zero, List.getElem?_cons_succ]; rfl
          case hQb10 => exact fun _ _ _ h => h
          case hyb10 => refine Or.inl ⟨by rfl, ?_⟩; intro W hSw; (try dsimp only at hSw); go_simp; try with_reducible rfl
          simp only [Act.put, List.setIfInBounds_toArray, List.set_cons_zero, List.set_cons_succ]
          obtain ⟨u0, u1, u2, u3⟩ := block_cells hgb
          obtain ⟨fz0, fz1, fz2, fz3⟩ := block_frozen hgb
          refine wpAnyH_ready (rs := [12]) (by kernel_rfl) (by simp) ?_
          refine AllReadyH.cons (o := ?oot) ?hot (fun K' hK => ?_) AllReadyH.nil
          case hot => simp only [List.getElem?_toArray, List.getElem?_cons_zero, List.getElem?_cons_succ]; rfl
          go_simp
          have bxs := below_set4 (low2 _ hS) g hgl (.int .i64 zeroV.epoch) (.slice c1 zeroV.chain.length l1) (.slice c2 zeroV.since.length l2) (.slice c3 zeroV.boot.length l3)
          refine hK.out _ _ (mkS _ bxs) (fun hS2 => ?_)
          clear hK
          refine wpAnyH_take (i := 13) (oi := ?ob13t) (v := ?vb13t) ?hib13t (by kernel_rfl) (by kernel_rfl) (by kernel_rfl) ?hQb13t ?hyb13t hS2 ?restb13t
          case hib13t => simp only [List.getElem?_toArray, List.getElem?_cons_zero, List.getElem?_cons_succ]; rfl
          case hQb13t => exact fun _ _ _ h => h
          case hyb13t => refine Or.inl ⟨by rfl, ?_⟩; intro W hSw; (try dsimp only at hSw); go_simp; try with_reducible rfl
          simp only [Act.put, List.setIfInBounds_toArray, List.set_cons_zero, List.set_cons_succ]
          refine wpAnyH_done (by kernel_rfl) ?_ _
          have hvs := hset (.int .i64 zeroV.epoch) (.slice c1 zeroV.chain.length l1) (.slice c2 zeroV.since.length l2) (.slice c3 zeroV.boot.length l3)
          have hbs := block_set (block_set (block_set (block_set hgb 0 (.int .i64 zeroV.epoch)) 1 (.slice c1 zeroV.chain.length l1)) 2 (.slice c2 zeroV.since.length l2)) 3 (.slice c3 zeroV.boot.length l3)
          clear hgb hset u0 u1 u2 u3 fz0 fz1 fz2 fz3
          go_wp2
          all_goals go_meet
          all_goals
            case rel => exact ⟨g, c1, l1, c2, l2, c3, l3, rfl, rfl, hgl, hbs, by simpa using hvs, bxs⟩
        | false =>
          clear hset hq5
          obtain ⟨m', rfl⟩ : ∃ m', m = m' + 6 := ⟨m - 6, by simp at hm; omega⟩
          clear hm
          refine wpAnyH_take (i := 8) (oi := ?oc8) (v := ?vc8) ?hic8 (by kernel_rfl) (by kernel_rfl) (by kernel_rfl) ?hQc8 ?hyc8 hS ?restc8
          case hic8 => simp only [List.getElem?_toArray, List.getElem?_cons_zero, List.getElem?_cons_succ]; rfl
          case hQc8 => exact fun _ _ _ h => h
          case hyc8 => refine Or.inl ⟨by rfl, ?_⟩; intro W hSw; (try dsimp only at hSw); go_simp; try with_reducible rfl
          simp only [Act.put, List.setIfInBounds_toArray, List.set_cons_zero, List.set_cons_succ]
          refine wpAnyH_take (i := 9) (oi := ?oc9) (v := ?vc9) ?hic9 (by kernel_rfl) (by kernel_rfl) (by kernel_rfl) ?hQc9 ?hyc9 hS ?restc9
          case hic9 => simp only [List.getElem?_toArray, List.getElem?_cons_zero, List.getElem?_cons_succ]; rfl
          case hQc9 => exact fun _ _ _ h => h
          case hyc9 => refine Or.inl ⟨by rfl, ?_⟩; intro W hSw; (try dsimp only at hSw); go_simp; try with_reducible rfl
          simp only [Act.put, List.setIfInBounds_toArray, List.set_cons_zero, List.set_cons_succ]
          refine wpAnyH_take (i := 10) (oi := ?oc10) (v := ?vc10) ?hic10 (by kernel_rfl) (by kernel_rfl) (by kernel_rfl) ?hQc10 ?hyc10 hS ?restc10
          case hic10 => simp only [List.getElem?_toArray, List.getElem?_cons_zero, List.getElem?_cons_succ]; rfl
          case hQc10 => exact fun _ _ _ h => h
          case hyc10 => refine Or.inl ⟨by rfl, ?_⟩; intro W hSw; (try dsimp only at hSw); go_simp; try with_reducible rfl
          simp only [Act.put, List.setIfInBounds_toArray, List.set_cons_zero, List.set_cons_succ]
          refine wpAnyH_ready (rs := [11]) (by kernel_rfl) (by simp) ?_
          refine AllReadyH.cons (o := ?oo11z) ?ho11z (fun K' hK => ?_) AllReadyH.nil
          case ho11z => simp only [List.getElem?_toArray, List.getElem?_cons_zero, List.getElem?_cons_succ]; rfl
          go_simp
          have hbW : Below W.heap.size W (W.alloc (.cells #[.int .i64 0, .slice none 0 0, .slice none 0 0, .slice none 0 0] 24)) := (Below.refl _ _).alloc (Nat.le_refl _) _
          refine hK.out _ _ (keep _ _ hS hbW) (fun hS1 => ?_)
          clear hK
          have hgb := heap_alloc_new W (.cells #[.int .i64 0, .slice none 0 0, .slice none 0 0, .slice none 0 0] 24)
          have hgl := hS.2.2.2.2.2.2.2.2.1
          have hset := fun v0 v1 v2 v3 => (view_set4_hi (hva.keep hbW (Nat.le_refl _)) W.heap.size (Nat.le_refl _) v0 v1 v2 v3).up hbW.size
          clear hbW hva hS
          generalize W.heap.size = g at hgb hgl hset ⊢
          generalize W.alloc (.cells #[.int .i64 0, .slice none 0 0, .slice none 0 0, .slice none 0 0] 24) = W1 at hgb hset hS1 ⊢
          have hS := hS1
          clear hS1
          obtain ⟨u0, u1, u2, u3⟩ := block_cells hgb
          obtain ⟨fz0, fz1, fz2, fz3⟩ := block_frozen hgb
          refine wpAnyH_ready (rs := [12]) (by kernel_rfl) (by simp) ?_
          refine AllReadyH.cons (o := ?oof) ?hof (fun K' hK => ?_) AllReadyH.nil
          case hof => simp only [List.getElem?_toArray, List.getElem?_cons_zero, List.getElem?_cons_succ]; rfl
          go_simp
          have bxs := below_set4 (low2 _ hS) g hgl (.int .i64 zeroV.epoch) (.slice c1 zeroV.chain.length l1) (.slice c2 zeroV.since.length l2) (.slice c3 zeroV.boot.length l3)
          refine hK.out _ _ (mkS _ bxs) (fun hS2 => ?_)
          clear hK
          refine wpAnyH_take (i := 13) (oi := ?ob13f) (v := ?vb13f) ?hib13f (by kernel_rfl) (by kernel_rfl) (by kernel_rfl) ?hQb13f ?hyb13f hS2 ?restb13f
          case hib13f => simp only [List.getElem?_toArray, List.getElem?_cons_zero, List.getElem?_cons_succ]; rfl
          case hQb13f => exact fun _ _ _ h => h
          case hyb13f => refine Or.inl ⟨by rfl, ?_⟩; intro W hSw; (try dsimp only at hSw); go_simp; try with_reducible rfl
          simp only [Act.put, List.setIfInBounds_toArray, List.set_cons_zero, List.set_cons_succ]
          refine wpAnyH_done (by kernel_rfl) ?_ _
          have hvs := hset (.int .i64 zeroV.epoch) (.slice c1 zeroV.chain.length l1) (.slice c2 zeroV.since.length l2) (.slice c3 zeroV.boot.length l3)
          have hbs := block_set (block_set (block_set (block_set hgb 0 (.int .i64 zeroV.epoch)) 1 (.slice c1 zeroV.chain.length l1)) 2 (.slice c2 zeroV.since.length l2)) 3 (.slice c3 zeroV.boot.length l3)
          clear hgb hset u0 u1 u2 u3 fz0 fz1 fz2 fz3
          go_wp2
          all_goals go_meet
          all_goals
            case rel => exact ⟨g, c1, l1, c2, l2, c3, l3, rfl, rfl, hgl, hbs, by simpa using hvs, bxs⟩
      · left
        refine ⟨?_, fun i hi => ?_⟩
        · rcases (by omega : p = 0 ∨ p = 1 ∨ p = 2 ∨ p = 3) with rfl | rfl | rfl | rfl
          all_goals (cases q <;> decide +kernel)
        · obtain ⟨h0, o, ho, hall⟩ := mem_ready.1 hi
          have hlt : i < 14 := by
            rcases Nat.lt_or_ge i 14 with h | h
            · exact h
            · rw [Array.getElem?_eq_none (by simpa using h)] at ho; cases ho
          rcases (by omega : i = 0 ∨ i = 1 ∨ i = 2 ∨ i = 3 ∨ i = 4 ∨ i = 5 ∨ i = 6 ∨ i = 7 ∨ i = 8 ∨ i = 9 ∨ i = 10 ∨ i = 11 ∨ i = 12 ∨ i = 13) with rfl | rfl | rfl | rfl | rfl | rfl | rfl | rfl | rfl | rfl | rfl | rfl | rfl | rfl
          · cases h0
          · cases h0
          · have hp0 : p = 0 := by
              have h1 : decide (1 ≤ p) = false := h0
              simp only [decide_eq_false_iff_not] at h1
              omega
            subst hp0
            refine wpOp_step (o := ?oo2) ?ho2 (fun K' hK => ?_)
            case ho2 => simp only [List.getElem?_toArray, List.getElem?_cons_zero, List.getElem?_cons_succ]; rfl
            have HK := Lib.hid hK
            clear hK
            go_simp
            refine (R3.out W (low _ hS)).mono ?_
            rintro e W' ⟨rfl, hbW⟩
            have hS' := keep _ _ hS hbW
            exact HK.out _ _ ⟨hS', 1, q, g, x5, (.int .i64 y), x25, x26, x27, rfl, rfl, hS', (fun hq => ⟨(hq5 hq).1, (hq5 hq).2.1, (hbW.block g (Array.getElem?_eq_some_iff.1 (hq5 hq).2.2).1).trans (hq5 hq).2.2⟩), (fun _ => rfl), (fun h => absurd h (by omega)), (fun h => absurd h (by omega)), (fun h => absurd h (by omega)), by omega⟩
          · cases h0
          · cases h0
          · simp only [List.getElem?_toArray, List.getElem?_cons_succ, List.getElem?_cons_zero, Option.some.injEq] at ho
            subst ho
            have hp0 : p = 1 := by
              have h1 : decide (2 ≤ p) = false := h0
              have h2 : decide (1 ≤ p) = true := hall ⟨2, .chain⟩ (by simp) rfl
              simp only [decide_eq_false_iff_not, decide_eq_true_eq] at h1 h2
              omega
            subst hp0
            obtain rfl := f1 (by omega)
            refine wpOp_step (o := ?oo5) ?ho5 (fun K' hK => ?_)
            case ho5 => simp only [List.getElem?_toArray, List.getElem?_cons_zero, List.getElem?_cons_succ]; rfl
            have HK := Lib.hid hK
            clear hK
            go_simp
            refine (R3.out W (low _ hS)).mono ?_
            rintro e W' ⟨rfl, hbW⟩
            have hS' := keep _ _ hS hbW
            exact HK.out _ _ ⟨hS', 2, q, g, x5, (.int .i64 y), (.int .i64 y), x26, x27, rfl, rfl, hS', (fun hq => ⟨(hq5 hq).1, (hq5 hq).2.1, (hbW.block g (Array.getElem?_eq_some_iff.1 (hq5 hq).2.2).1).trans (hq5 hq).2.2⟩), (fun _ => rfl), (fun _ => rfl), (fun h => absurd h (by omega)), (fun h => absurd h (by omega)), by omega⟩
          · simp only [List.getElem?_toArray, List.getElem?_cons_succ, List.getElem?_cons_zero, Option.some.injEq] at ho
            subst ho
            have hp0 : p = 2 := by
              have h1 : decide (3 ≤ p) = false := h0
              have h2 : decide (2 ≤ p) = true := hall ⟨5, .chain⟩ (by simp) rfl
              simp only [decide_eq_false_iff_not, decide_eq_true_eq] at h1 h2
              omega
            subst hp0
            obtain rfl := f1 (by omega)
            obtain rfl := f2 (by omega)
            refine wpOp_step (o := ?oo6) ?ho6 (fun K' hK => ?_)
            case ho6 => simp only [List.getElem?_toArray, List.getElem?_cons_zero, List.getElem?_cons_succ]; rfl
            have HK := Lib.hid hK
            clear hK
            go_simp
            refine (R4.out W (low _ hS)).mono ?_
            rintro e W' ⟨rfl, hbW⟩
            have hS' := keep _ _ hS hbW
            exact HK.out _ _ ⟨hS', 3, q, g, x5, (.int .i64 y), (.int .i64 y), (.int .i64 i0), x27, rfl, rfl, hS', (fun hq => ⟨(hq5 hq).1, (hq5 hq).2.1, (hbW.block g (Array.getElem?_eq_some_iff.1 (hq5 hq).2.2).1).trans (hq5 hq).2.2⟩), (fun _ => rfl), (fun _ => rfl), (fun _ => rfl), (fun h => absurd h (by omega)), by omega⟩
          · simp only [List.getElem?_toArray, List.getElem?_cons_succ, List.getElem?_cons_zero, Option.some.injEq] at ho
            subst ho
            have hp0 : p = 3 := by
              have h1 : decide (4 ≤ p) = false := h0
              have h2 : decide (3 ≤ p) = true := hall ⟨6, .chain⟩ (by simp) rfl
              simp only [decide_eq_false_iff_not, decide_eq_true_eq] at h1 h2
              omega
            subst hp0
            obtain rfl := f1 (by omega)
            obtain rfl := f2 (by omega)
            obtain rfl := f3 (by omega)
            refine wpOp_step (o := ?oo7) ?ho7 (fun K' hK => ?_)
            case ho7 => simp only [List.getElem?_toArray, List.getElem?_cons_zero, List.getElem?_cons_succ]; rfl
            have HK := Lib.hid hK
            clear hK
            go_simp
            refine (R5.out W (low _ hS)).mono ?_
            rintro e W' ⟨va, rfl, hva, hbW, hfr⟩
            have hva0 := hva
            obtain ⟨c1, l1, c2, l2, c3, l3, rfl⟩ := hva0.form
            have hS' := keep _ _ hS hbW
            exact HK.out _ _ ⟨hS', 4, q, g, x5, (.int .i64 y), (.int .i64 y), (.int .i64 i0), (.tuple #[.agg #[.int .i64 zeroV.epoch, .slice c1 zeroV.chain.length l1, .slice c2 zeroV.since.length l2, .slice c3 zeroV.boot.length l3], .int .i64 7]), rfl, rfl, hS', (fun hq => ⟨(hq5 hq).1, (hq5 hq).2.1, (hbW.block g (Array.getElem?_eq_some_iff.1 (hq5 hq).2.2).1).trans (hq5 hq).2.2⟩), (fun _ => rfl), (fun _ => rfl), (fun _ => rfl), (fun _ => ⟨c1, l1, c2, l2, c3, l3, rfl, hva, fun hq v0 v1 v2 v3 => view_set4 hva hfr g (Array.getElem?_eq_some_iff.1 (hq5 hq).2.2).1 v0 v1 v2 v3⟩), by omega⟩
          · simp only [List.getElem?_toArray, List.getElem?_cons_succ, List.getElem?_cons_zero, Option.some.injEq] at ho
            subst ho
            have h2 : decide (4 ≤ p) = true := hall ⟨7, .data⟩ (by simp) rfl
            rw [decide_eq_true_eq] at h2
            omega
          · simp only [List.getElem?_toArray, List.getElem?_cons_succ, List.getElem?_cons_zero, Option.some.injEq] at ho
            subst ho
            have h2 : false = true := hall ⟨8, .data⟩ (by simp) rfl
            cases h2
          · simp only [List.getElem?_toArray, List.getElem?_cons_succ, List.getElem?_cons_zero, Option.some.injEq] at ho
            subst ho
            have h2 : false = true := hall ⟨8, .data⟩ (by simp) rfl
            cases h2
          · have hq : q = false := h0
            subst hq
            refine wpOp_step (o := ?oo11) ?ho11 (fun K' hK => ?_)
            case ho11 => simp only [List.getElem?_toArray, List.getElem?_cons_zero, List.getElem?_cons_succ]; rfl
            have HK := Lib.hid hK
            clear hK
            go_simp
            have hbW : Below W.heap.size W (W.alloc (.cells #[.int .i64 0, .slice none 0 0, .slice none 0 0, .slice none 0 0] 24)) := (Below.refl _ _).alloc (Nat.le_refl _) _
            have hS' := keep _ _ hS hbW
            exact HK.out _ _ ⟨hS', p, true, W.heap.size, (.pointer (some ⟨W.heap.size, 0, none⟩)), x22, x25, x26, x27, rfl, rfl, hS', (fun _ => ⟨rfl, hS.2.2.2.2.2.2.2.2.1, heap_alloc_new _ _⟩), f1, f2, f3, (fun h => absurd h (by omega)), by omega⟩
          · simp only [List.getElem?_toArray, List.getElem?_cons_succ, List.getElem?_cons_zero, Option.some.injEq] at ho
            subst ho
            have h2 : false = true := hall ⟨9, .data⟩ (by simp) rfl
            cases h2
          · simp only [List.getElem?_toArray, List.getElem?_cons_succ, List.getElem?_cons_zero, Option.some.injEq] at ho
            subst ho
            have h2 : false = true := hall ⟨12, .chain⟩ (by simp) rfl
            cases h2
    · exact ⟨0, false, 0, undef, undef, undef, undef, undef, rfl, rfl, hHeld, (fun h => by cases h), (fun h => absurd h (by omega)), (fun h => absurd h (by omega)), (fun h => absurd h (by omega)), (fun h => absurd h (by omega)), by omega⟩
  case rest =>
    obtain ⟨g, c1, l1, c2, l2, c3, l3, rfl, rfl, hgl, hgb, hvx, bxe⟩ := hcut
    obtain ⟨u0, u1, u2, u3⟩ := block_cells hgb
    obtain ⟨y0, y1, y2, y3⟩ := box_cells bxe
    obtain ⟨z0, z1, z2, z3⟩ := res_cells bxe
    go_wp2_with fail
    clear y0 y1 y2 y3 z0 z1 z2 z3 u0 u1 u2 u3
    go_loopw [4, 40] (fun _ t40 wr => ∃ k : Nat, k ≤ j ∧ t40 = .int .i64 k ∧ Below (w.heap.size + 2) ((w.alloc (.cells #[.int .i64 V.epoch, .slice a1 V.chain.length k1, .slice a2 V.since.length k2, .slice a3 V.boot.length k3] 24)).alloc (.cells #[.int .i64 U.epoch, .slice b1 U.chain.length m1, .slice b2 U.since.length m2, .slice b3 U.boot.length m3] 24)) wr) (fun _ t40 _ => V.chain.length - (intOf t40).toNat)
    case atStart => exact ⟨0, Nat.zero_le _, rfl, bxe⟩
    case round =>
      obtain ⟨k, hk, rfl, bx⟩ := hrel
      have hlt : k < V.chain.length := by omega
      have hz := size_two bx
      obtain ⟨y0, y1, y2, y3⟩ := box_cells bx
      obtain ⟨z0, z1, z2, z3⟩ := res_cells bx
      obtain ⟨e1, o1, q1, he1, _, _, hc⟩ := (H1.out.keep (below_two' bx) hB).get k hlt
      obtain ⟨rfl, -, rfl⟩ : a1 = some ⟨e1, o1, none⟩ ∧ V.chain.length = V.chain.length ∧ k1 = q1 := by injection he1 with e1 e2 e3; exact ⟨e1, e2, e3⟩
      clear he1
      obtain ⟨n, hn⟩ : ∃ n, V.chain[k] = n := ⟨_, rfl⟩
      obtain ⟨Ak, fA, sA, fU⟩ := FJ.out k hlt n hn
      rw [hn] at hc
      have i1 : (0 : Int) ≤ (k : Int) := by omega
      have i2 : (k : Int) < (V.chain.length : Int) := by omega
      have Q := Lib.hid (fun (w1 : World) (hb1 : Below w.heap.size w w1) => without_any B _ V n Ak 0 fA w1 (HV.out.keep hb1 hB) (Nat.le_trans hB hb1.size) hsm)
      have FU := Lib.hid fU
      clear hn fA fU
      go_wp2_with fail
      refine (Q.out _ (below_two' bx)).mono ?_
      rintro e wx ⟨va, rfl, hva, hbx⟩
      have bxx := below_more bx hz hbx
      have hzx := size_two bxx
      have HVA := Lib.hid hva
      obtain ⟨c1', l1', c2', l2', c3', l3', rfl⟩ := hva.form
      clear hva
      have bxe2 := bxx.alloc hzx (.cells #[.int .i64 Ak.epoch, .slice c1' Ak.chain.length l1', .slice c2' Ak.since.length l2', .slice c3' Ak.boot.length l3'] 24)
      obtain ⟨y0, y1, y2, y3⟩ := box_cells bxe2
      obtain ⟨z0, z1, z2, z3⟩ := res_cells bxe2
      have hvx := Lib.hid (view_alloc HVA.out (Nat.le_refl _) (.cells #[.int .i64 Ak.epoch, .slice c1' Ak.chain.length l1', .slice c2' Ak.since.length l2', .slice c3' Ak.boot.length l3'] 24))
      go_wp2_with fail
      have P := Lib.hid (fun (b : Bool) (hb : b = sameV Ak U) => vsame_any wx.heap.size B2 _ _ Ak U _ hvx.out (HU.out.keep (below_two' bxe2) hB2) (by simp) (Nat.le_trans hB2 (below_two' bxe2).size) sA hsm2 b hb)
      cases hsame : sameV Ak U with
      | true =>
        refine (P.out true hsame.symm).mono ?_
        clear hsame
        rintro e wf ⟨rfl, hbf⟩
        go_wp2_with fail
        go_ret
        exact ⟨rfl, bstep (below_two' bxe2) hbf⟩
      | false =>
        refine (P.out false hsame.symm).mono ?_
        have hkj : k ≠ j := fun e => by
          have := FU.out e
          rw [this, sameV_self] at hsame
          cases hsame
        clear hsame
        rintro e wf ⟨rfl, hbf⟩
        go_wp2_with fail
        go_roundw
        case rel => exact ⟨k + 1, by omega, by go_num, below_more bxe2 (by simp; omega) hbf⟩
        case measure => simp [intOf]; omega
end Go.Proofs.Ytigojackdkaanaa
