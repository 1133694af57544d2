/-
  The walks of view.Message and view.Of. Printed by gen_vwmsg.py of this claim's writer.
-/
import Derived.Test.YtigojackdkaanaaVwSame
import Derived.Test.YtigojackdkaanaaVwLane
namespace Go.Proofs.Ytigojackdkaanaa
open Go.RowKit

theorem minfo : (Try.prog.info? 36).map (·.size) = some 4 := by kernel_rfl

/-- A row of the call's own whose cells may be written. -/
def Writable (w : World) (lo hi : Nat) (v : Value) (n : Nat) : Prop :=
  ∃ a cap, v = .slice a n cap ∧ n ≤ cap ∧ (0 < n → ∃ g, a = some ⟨g, 0, none⟩ ∧ lo ≤ g ∧ g < hi ∧ ∀ j, j < n → (w.cell? ⟨g, j, none⟩).isSome = true ∧ w.frozen? ⟨g, j, none⟩ = false)

theorem writable_of {w : World} {base : Nat} {e : TypeId} {v : Value} {n : Nat} {l : List Int} (h : w.ownsRow base e 1 v n (icells l)) : Writable w base w.heap.size v n := by
  rcases h.2 with ⟨rfl, rfl⟩ | ⟨g, cap, cur, rfl, hb, hg, h1, _, h3, h4⟩
  · exact ⟨_, _, rfl, Nat.le_refl _, fun h => absurd h (by omega)⟩
  · refine ⟨_, _, rfl, h1, fun hp => ⟨g, rfl, hb, (Array.getElem?_eq_some_iff.1 hg).1, fun j hj => ⟨?_, by simp [World.frozen?, hg]⟩⟩⟩
    rw [cell_of_row w g j cur _ _ hg]
    have : j < cur.size := by omega
    simp [this]

theorem writable_set {w : World} {lo hi : Nat} {v : Value} {n : Nat} (h : Writable w lo hi v n) (p : Addr) (x : Value) : Writable (w.setCell p x) lo hi v n := by
  obtain ⟨a, cap, rfl, h1, h2⟩ := h
  refine ⟨a, cap, rfl, h1, fun hp => ?_⟩
  obtain ⟨g, rfl, h3, h4, h5⟩ := h2 hp
  exact ⟨g, rfl, h3, h4, fun j hj => ⟨some_set (h5 j hj).1, by rw [World.frozen?_setCell]; exact (h5 j hj).2⟩⟩
theorem writable_keep {w w' : World} {lo hi : Nat} {v : Value} {n : Nat} (h : Writable w lo hi v n) (hb : Below hi w w') : Writable w' lo hi v n := by
  obtain ⟨a, cap, rfl, h1, h2⟩ := h
  refine ⟨a, cap, rfl, h1, fun hp => ?_⟩
  obtain ⟨g, rfl, h3, h4, h5⟩ := h2 hp
  refine ⟨g, rfl, h3, h4, fun j hj => ⟨?_, ?_⟩⟩
  · rw [hb.cell (p := ⟨g, j, none⟩) h4]; exact (h5 j hj).1
  · have := (h5 j hj).2
    unfold World.frozen? at this ⊢
    rw [hb.block g h4]
    exact this

set_option maxRecDepth 100000 in
set_option maxHeartbeats 3200000 in
theorem message_any (B : Nat) (v : Value) (V : VW) (w : World) (h : IsView B w v V) (hB : B ≤ w.heap.size) (hsm : SmallV V) :
    Calls Try.prog 25 #[v] w fun e w' => ∃ c s b, e = .returned (.agg #[.int .i64 V.epoch, c, s, b]) ∧ IsView w'.heap.size w' (.agg #[.int .i64 V.epoch, c, s, b]) V ∧ Below w.heap.size w w' ∧
      Writable w' w.heap.size w'.heap.size c V.chain.length ∧ Writable w' w.heap.size w'.heap.size s V.since.length ∧ Writable w' w.heap.size w'.heap.size b V.boot.length := by
  obtain ⟨he, cc, s, bt, rfl, h1, h2, h3⟩ := h
  have H1 := Lib.hid h1
  have H2 := Lib.hid h2
  have H3 := Lib.hid h3
  obtain ⟨a1, k1, rfl⟩ := h1.form
  obtain ⟨a2, k2, rfl⟩ := h2.form
  obtain ⟨a3, k3, rfl⟩ := h3.form
  obtain ⟨s1, s2, s3⟩ := hsm
  have C3 := Lib.hid (fun (w1 : World) (hb1 : Below w.heap.size w w1) => clone_any B _ V.chain w1 (H1.out.keep hb1 hB) (Nat.le_trans hB hb1.size) (by omega))
  have C4 := Lib.hid (fun (w1 : World) (hb1 : Below w.heap.size w w1) => clone_any B _ V.since w1 (H2.out.keep hb1 hB) (Nat.le_trans hB hb1.size) (by omega))
  have C5 := Lib.hid (fun (w1 : World) (hb1 : Below w.heap.size w w1) => clone_any B _ V.boot w1 (H3.out.keep hb1 hB) (Nat.le_trans hB hb1.size) (by omega))
  clear h1 h2 h3
  go_enter Try.func25, Try.ntmps25
  go_wp2_with fail
  have hb12 : Below (w.heap.size + 2) _ ((w.alloc (.cells #[.int .i64 V.epoch, .slice a1 V.chain.length k1, .slice a2 V.since.length k2, .slice a3 V.boot.length k3] 24)).alloc (.cells #[.int .i64 0, .slice none 0 0, .slice none 0 0, .slice none 0 0] 36)) := Below.refl _ _
  have hh := held_of hb12.drew
  go_region_held3 (fun W => W.cell? ⟨w.heap.size, 0, none⟩ = some (.int .i64 V.epoch) ∧ W.cell? ⟨w.heap.size, 1, none⟩ = some (.slice a1 V.chain.length k1) ∧ W.cell? ⟨w.heap.size, 2, none⟩ = some (.slice a2 V.since.length k2) ∧ W.cell? ⟨w.heap.size, 3, none⟩ = some (.slice a3 V.boot.length k3) ∧ W.cell? ⟨w.heap.size + 1, 0, none⟩ = some (cellOr W ⟨w.heap.size + 1, 0, none⟩) ∧ W.cell? ⟨w.heap.size + 1, 1, none⟩ = some (cellOr W ⟨w.heap.size + 1, 1, none⟩) ∧ W.cell? ⟨w.heap.size + 1, 2, none⟩ = some (cellOr W ⟨w.heap.size + 1, 2, none⟩) ∧ W.cell? ⟨w.heap.size + 1, 3, none⟩ = some (cellOr W ⟨w.heap.size + 1, 3, none⟩) ∧ W.frozen? ⟨w.heap.size + 1, 0, none⟩ = false ∧ W.frozen? ⟨w.heap.size + 1, 1, none⟩ = false ∧ W.frozen? ⟨w.heap.size + 1, 2, none⟩ = false ∧ W.frozen? ⟨w.heap.size + 1, 3, none⟩ = false ∧ w.heap.size + 2 ≤ W.heap.size ∧ Below (w.heap.size + 1) (w.alloc (.cells #[.int .i64 V.epoch, .slice a1 V.chain.length k1, .slice a2 V.since.length k2, .slice a3 V.boot.length k3] 24)) W)
    (first | exact hh | exact held_keep (by assumption) (by assumption) | exact held_set (by assumption))
    (first
      | ((with_reducible refine (C3.out _ ?_).mono ?_); exact held_below (by assumption); rintro e w3 ⟨v3, rfl, o3, hb3⟩; obtain ⟨q3, m3, rfl⟩ := own_form o3)
      | ((with_reducible refine (C4.out _ ?_).mono ?_); exact held_below (by assumption); rintro e w4 ⟨v4, rfl, o4, hb4⟩; obtain ⟨q4, m4, rfl⟩ := own_form o4)
      | ((with_reducible refine (C5.out _ ?_).mono ?_); exact held_below (by assumption); rintro e w5 ⟨v5, rfl, o5, hb5⟩; obtain ⟨q5, m5, rfl⟩ := own_form o5))
  go_wp2_with fail
  (try simp only [Exit.inBlock, Exit.then])
  have hz2 := size_two hb12
  have hz3 := hb3.size
  have hz4 := hb4.size
  rw [World.size_drew] at hz3
  have hfin := below_more (below_more (below_more hb12.drew (by rw [World.size_drew]; omega) hb3) (by omega) hb4) (by omega) hb5
  refine bodyPost_ret (ret_row4 rfl _ _ _ _ _ _ _ _ _ _ _ _ _ (by rfl) (res_block hfin) Try.underlying36 rfl minfo) rfl ?_
  have r3 := own_set4 (own_below hb5 (own_below hb4 o3)) (w.heap.size + 1) (by rw [World.size_drew]; omega) (.int .i64 V.epoch) (.slice q3 V.chain.length m3) (.slice q4 V.since.length m4) (.slice q5 V.boot.length m5)
  have r4 := own_set4 (own_below hb5 o4) (w.heap.size + 1) (by omega) (.int .i64 V.epoch) (.slice q3 V.chain.length m3) (.slice q4 V.since.length m4) (.slice q5 V.boot.length m5)
  have r5 := own_set4 o5 (w.heap.size + 1) (by omega) (.int .i64 V.epoch) (.slice q3 V.chain.length m3) (.slice q4 V.since.length m4) (.slice q5 V.boot.length m5)
  refine ⟨_, _, _, rfl, ⟨he, _, _, _, rfl, ?_, ?_, ?_⟩, below_set4 (below_two' hfin) _ (by omega) _ _ _ _, writable_of (own_base (by rw [World.size_drew]; omega) r3), writable_of (own_base (by omega) r4), writable_of (own_base (by omega) r5)⟩
  · exact own_ints r3 (fun n hn => H1.out.at_.2.2.2.2.1 n hn)
  · exact own_ints r4 (fun n hn => H2.out.at_.2.2.2.2.1 n hn)
  · exact own_ints r5 (fun n hn => H3.out.at_.2.2.2.2.1 n hn)
end Go.Proofs.Ytigojackdkaanaa
