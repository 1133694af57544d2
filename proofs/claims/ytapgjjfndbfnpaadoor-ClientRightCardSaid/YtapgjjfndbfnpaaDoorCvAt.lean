/-
  The walks of view.Place, Head, Tail, Since, Boot, Ahead and Behind. Printed by gen_vwat.py of this claim's writer.
-/
import Derived.Test.YtapgjjfndbfnpaaDoorCvPlain3
namespace Go.Proofs.YtapgjjfndbfnpaaDoor.Vw
open Go.RowKit

theorem view_alloc {B : Nat} {w : World} {v : Value} {V : VW} (h : IsView B w v V) (hB : B ≤ w.heap.size) (c : Obj) : IsView B (w.alloc c) v V :=
  h.keep ((Below.refl _ w).alloc (Nat.le_refl _) c) hB
theorem le_alloc {B : Nat} {w : World} (hB : B ≤ w.heap.size) (c : Obj) : B ≤ (w.alloc c).heap.size := by rw [World.size_alloc]; omega

set_option maxHeartbeats 800000 in
theorem head_any (B : Nat) (v : Value) (V : VW) (r : Int) (hr : headV V = r) (w : World) (h : IsView B w v V) (hB : B ≤ w.heap.size) (hsm : SmallV V) :
    Calls Tryd.prog 58 #[v] w fun e w' => e = .returned (.int .i64 r) ∧ Below w.heap.size w w' := by
  have hv := Lib.hid h
  obtain ⟨he, c, s, bt, rfl, h1, h2, h3⟩ := h
  have H1 := Lib.hid h1
  have H2 := Lib.hid h2
  have H3 := Lib.hid h3
  obtain ⟨a1, k1, rfl⟩ := h1.form
  obtain ⟨a2, k2, rfl⟩ := h2.form
  obtain ⟨a3, k3, rfl⟩ := h3.form
  have hb0 : Below w.heap.size w (w.alloc (.cells #[.int .i64 V.epoch, .slice a1 V.chain.length k1, .slice a2 V.since.length k2, .slice a3 V.boot.length k3] 82)) := (Below.refl _ w).alloc (Nat.le_refl _) _
  have hV1 := view_alloc hv.out hB (.cells #[.int .i64 V.epoch, .slice a1 V.chain.length k1, .slice a2 V.since.length k2, .slice a3 V.boot.length k3] 82)
  have hB1 := le_alloc hB (.cells #[.int .i64 V.epoch, .slice a1 V.chain.length k1, .slice a2 V.since.length k2, .slice a3 V.boot.length k3] 82)
  have hs1 := hsm.1
  cases hb : rightB V with
  | false =>
    have C1 := Lib.hid (right_any B _ V _ hV1 hB1 hsm false hb.symm)
    obtain rfl : r = 0 := by rw [← hr, headV, if_neg (by rw [hb]; decide)]
    clear hb hr
    go_enter Tryd.func58, Tryd.ntmps58
    go_wp2_with fail
    refine C1.out.mono ?_
    rintro e w1 ⟨rfl, hb1⟩
    have hbb := bstep hb0 hb1
    go_wp2_with fail
    go_ret
    exact ⟨rfl, hbb⟩
  | true =>
    have C1 := Lib.hid (right_any B _ V _ hV1 hB1 hsm true hb.symm)
    have hpos : 0 < V.chain.length := ((rightB_iff V).1 hb).n1
    have hr' := Lib.hid (show V.chain[0]'(by omega) = r by rw [← getD_lt (by omega), ← hr, headV, if_pos hb])
    clear hb hr
    go_enter Tryd.func58, Tryd.ntmps58
    go_wp2_with fail
    refine C1.out.mono ?_
    rintro e w1 ⟨rfl, hb1⟩
    have hbb := bstep hb0 hb1
    have y1 : w1.cell? ⟨w.heap.size, 1, none⟩ = some (.slice a1 V.chain.length k1) := (hb1.cell (p := ⟨w.heap.size, 1, none⟩) (by simp)).trans (by simp)
    obtain ⟨b1, o1, k', he1, hlt1, _, hcell⟩ := (H1.out.keep hbb hB).get (0) (by omega)
    obtain ⟨rfl, -, rfl⟩ : a1 = some ⟨b1, o1, none⟩ ∧ V.chain.length = V.chain.length ∧ k1 = k' := by injection he1 with e1 e2 e3; exact ⟨e1, e2, e3⟩
    clear he1
    rw [hr'.out, Nat.add_zero] at hcell
    have i2 : (0 : Int) < (V.chain.length : Int) := by omega
    go_wp2_with fail
    go_ret
    exact ⟨rfl, hbb⟩

end Go.Proofs.YtapgjjfndbfnpaaDoor.Vw
