/-
  The walk of bucketlinelaw18.ViewNeighbours. Printed by gen_vwlaw2.py of this claim's writer.
-/
import Derived.Test.YtigojackdkaanaaVwShown
import Derived.BigQuiet
import Derived.IntWalk
namespace Go.Proofs.Ytigojackdkaanaa
open Go.RowKit

set_option maxRecDepth 100000 in
set_option maxHeartbeats 6400000 in
theorem walkViewNeighbours (v : Value) (W : World) (h : ∃ V, IsView W.heap.size W v V) :
    Calls Try.prog 4 #[v] W fun e W' => e = .returned (.bool true) ∧ Below W.heap.size W W' := by
  obtain ⟨V, hv⟩ := h
  have HV := Lib.hid hv
  have C1 := Lib.hid shown_any
  have C2' := Lib.hid (fun (b : Bool) (hb : b = decide (SmallV V)) (w1 : World) (hb1 : Below W.heap.size W w1) => smallV_any W.heap.size v V b hb w1 (hv.keep hb1 (Nat.le_refl _)))
  obtain ⟨he64, cc, s, bt, rfl, h1, h2, h3⟩ := hv
  obtain ⟨a1, k1, rfl⟩ := h1.form
  obtain ⟨a2, k2, rfl⟩ := h2.form
  obtain ⟨a3, k3, rfl⟩ := h3.form
  clear h1 h2 h3
  by_cases hs : SmallV V
  · have C2 := Lib.hid (C2'.out true (decide_eq_true hs).symm)
    have C3' := Lib.hid (fun (b : Bool) (hb : b = rightB V) (w1 : World) (hb1 : Below W.heap.size W w1) => right_any W.heap.size _ V w1 (HV.out.keep hb1 (Nat.le_refl _)) hb1.size hs b hb)
    cases hr : rightB V with
    | false =>
      have C3 := Lib.hid (C3'.out false hr.symm)
      clear hr
      go_enter Try.func4, Try.ntmps4
      go_wp2_with fail
      refine (C1.out _).mono ?_
      rintro e w1 ⟨rfl, hb1⟩
      have bx1 : Below (W.heap.size + 1) _ w1 := hb1.mono (by simp)
      obtain ⟨y0, y1, y2, y3⟩ := box4 bx1
      have hz1 : W.heap.size + 1 ≤ w1.heap.size := by have := bx1.size; simpa using this
      go_wp2_with fail
      refine (C2.out _ (below_one' bx1)).mono ?_
      rintro e w2 ⟨rfl, hb2⟩
      have bx2 := below_more bx1 hz1 hb2
      obtain ⟨y0, y1, y2, y3⟩ := box4 bx2
      have hz2 : W.heap.size + 1 ≤ w2.heap.size := Nat.le_trans hz1 hb2.size
      go_wp2_with fail
      refine (C3.out _ (below_one' bx2)).mono ?_
      rintro e w3 ⟨rfl, hb3⟩
      have bx3 := below_more bx2 hz2 hb3
      obtain ⟨y0, y1, y2, y3⟩ := box4 bx3
      have hz3 : W.heap.size + 1 ≤ w3.heap.size := Nat.le_trans hz2 hb3.size
      go_wp2_with fail
      go_ret
      exact ⟨rfl, below_one' bx3⟩
    | true =>
      have C3 := Lib.hid (C3'.out true hr.symm)
      have hR := (rightB_iff V).1 hr
      have n1 := hR.n1
      have n6 := hR.n2
      have HR := Lib.hid hR
      have D1 := Lib.hid (fun (w1 : World) (hb1 : Below W.heap.size W w1) => head_any W.heap.size _ V _ (head_getD hR) w1 (HV.out.keep hb1 (Nat.le_refl _)) hb1.size hs)
      have D2 := Lib.hid (fun (x r : Int) (hx : behindV V x = r) (w1 : World) (hb1 : Below W.heap.size W w1) => behind_any W.heap.size _ V x r hx w1 (HV.out.keep hb1 (Nat.le_refl _)) hb1.size hs)
      have D3 := Lib.hid (fun (x r : Int) (hx : aheadV V x = r) (w1 : World) (hb1 : Below W.heap.size W w1) => ahead_any W.heap.size _ V x r hx w1 (HV.out.keep hb1 (Nat.le_refl _)) hb1.size hs)
      have D4 := Lib.hid (fun (r : Int) (hx : tailV V = r) (w1 : World) (hb1 : Below W.heap.size W w1) => tail_any W.heap.size _ V r hx w1 (HV.out.keep hb1 (Nat.le_refl _)) hb1.size hs)
      have E1 := Lib.hid (show aheadV V (V.chain.getD 0 0) = 0 by rw [← head_getD hR]; exact ahead_head hR)
      clear hr hR
      go_enter Try.func4, Try.ntmps4
      go_wp2_with fail
      refine (C1.out _).mono ?_
      rintro e w1 ⟨rfl, hb1⟩
      have bx1 : Below (W.heap.size + 1) _ w1 := hb1.mono (by simp)
      obtain ⟨y0, y1, y2, y3⟩ := box4 bx1
      have hz1 : W.heap.size + 1 ≤ w1.heap.size := by have := bx1.size; simpa using this
      go_wp2_with fail
      refine (C2.out _ (below_one' bx1)).mono ?_
      rintro e w2 ⟨rfl, hb2⟩
      have bx2 := below_more bx1 hz1 hb2
      obtain ⟨y0, y1, y2, y3⟩ := box4 bx2
      have hz2 : W.heap.size + 1 ≤ w2.heap.size := Nat.le_trans hz1 hb2.size
      go_wp2_with fail
      refine (C3.out _ (below_one' bx2)).mono ?_
      rintro e w3 ⟨rfl, hb3⟩
      have bx3 := below_more bx2 hz2 hb3
      obtain ⟨y0, y1, y2, y3⟩ := box4 bx3
      have hz3 : W.heap.size + 1 ≤ w3.heap.size := Nat.le_trans hz2 hb3.size
      go_wp2_with fail
      refine (D1.out _ (below_one' bx3)).mono ?_
      rintro e w4 ⟨rfl, hb4⟩
      have bx4 := below_more bx3 hz3 hb4
      obtain ⟨y0, y1, y2, y3⟩ := box4 bx4
      have hz4 : W.heap.size + 1 ≤ w4.heap.size := Nat.le_trans hz3 hb4.size
      clear y0 y1 y2 y3
      go_wp2_with fail
      go_loopw [2, 5, 6, 7] (fun _ t5 t6 _ wr => ∃ m : Nat, m ≤ V.chain.length ∧ t6 = .int .i64 m ∧ t5 = .int .i64 (V.chain.getD m 0) ∧ Below (W.heap.size + 1) (W.alloc (.cells #[.int .i64 V.epoch, .slice a1 V.chain.length k1, .slice a2 V.since.length k2, .slice a3 V.boot.length k3] 24)) wr) (fun _ _ t6 _ _ => V.chain.length - (intOf t6).toNat)
      case atStart => exact ⟨0, Nat.zero_le _, rfl, rfl, bx4⟩
      case round =>
        obtain ⟨m, hm, rfl, rfl, bx⟩ := hrel
        obtain ⟨y0, y1, y2, y3⟩ := box4 bx
        have hz : W.heap.size + 1 ≤ wr.heap.size := by have := bx.size; simpa using this
        by_cases hlt : m < V.chain.length
        · obtain ⟨n, hn⟩ : ∃ n, V.chain.getD m 0 = n := ⟨_, rfl⟩
          obtain ⟨k, hk1, hk2, hk3, hk4⟩ := neigh_round HR.out m hlt n hn.symm
          have hn0 : (n != 0) = true := by
            rw [bne_iff_ne]
            intro e
            have := (chain_zero HR.out m).1 (hn.trans e)
            omega
          have d2 := Lib.hid (D2.out n k hk1)
          have HK2 := Lib.hid hk2
          rw [hn]
          by_cases hk0 : k = 0
          · have d4 := Lib.hid (D4.out n (hk4 hk0))
            have HK0 := Lib.hid hk0
            have gk : (k != 0) = false := by rw [bne_eq_false_iff_eq]; exact hk0
            have gk2 : (k == 0) = true := by rw [beq_iff_eq]; exact hk0
            clear hk1 hk2 hk3 hk4 hk0 hn
            go_wp2_with fail
            refine (d2.out _ (below_one' bx)).mono ?_
            rintro e w5 ⟨rfl, hb5⟩
            have bx5 := below_more bx hz hb5
            obtain ⟨y0, y1, y2, y3⟩ := box4 bx5
            have hz5 : W.heap.size + 1 ≤ w5.heap.size := Nat.le_trans hz hb5.size
            go_wp2_with fail
            refine (d4.out _ (below_one' bx5)).mono ?_
            rintro e w6 ⟨rfl, hb6⟩
            have bx6 := below_more bx5 hz5 hb6
            go_wp2_with fail
            go_roundw
            case rel => exact ⟨m + 1, by omega, by go_num, by rw [← HK2.out], bx6⟩
            case measure => simp [intOf]; omega
          · have d3 := Lib.hid (D3.out k n (hk3 hk0))
            have gk : (k != 0) = true := by rw [bne_iff_ne]; exact hk0
            have gk2 : (k == 0) = false := by rw [beq_eq_false_iff_ne]; exact hk0
            clear hk1 hk2 hk3 hk4 hk0 hn
            go_wp2_with fail
            refine (d2.out _ (below_one' bx)).mono ?_
            rintro e w5 ⟨rfl, hb5⟩
            have bx5 := below_more bx hz hb5
            obtain ⟨y0, y1, y2, y3⟩ := box4 bx5
            have hz5 : W.heap.size + 1 ≤ w5.heap.size := Nat.le_trans hz hb5.size
            go_wp2_with fail
            refine (d3.out _ (below_one' bx5)).mono ?_
            rintro e w6 ⟨rfl, hb6⟩
            have bx6 := below_more bx5 hz5 hb6
            go_wp2_with fail
            go_roundw
            case rel => exact ⟨m + 1, by omega, by go_num, by rw [← HK2.out], bx6⟩
            case measure => simp [intOf]; omega
        · have hn : V.chain.getD m 0 = 0 := (chain_zero HR.out m).2 (by omega)
          rw [hn]
          have gm : ((m : Int) == (V.chain.length : Int)) = true := by rw [beq_iff_eq]; omega
          have d1 := D1
          have d3 := Lib.hid (D3.out _ 0 E1.out)
          have d4 := Lib.hid (D3.out 0 0 (ahead_zero HR.out))
          have d5 := Lib.hid (D2.out 0 0 (behind_zero HR.out))
          generalize V.chain.getD 0 0 = n0 at d1 d3 E1
          clear hn
          go_wp2_with fail
          have hh : wr.drew.cell? ⟨W.heap.size, 0, none⟩ = some (.int .i64 V.epoch) ∧ wr.drew.cell? ⟨W.heap.size, 1, none⟩ = some (.slice a1 V.chain.length k1) ∧ wr.drew.cell? ⟨W.heap.size, 2, none⟩ = some (.slice a2 V.since.length k2) ∧ wr.drew.cell? ⟨W.heap.size, 3, none⟩ = some (.slice a3 V.boot.length k3) ∧ W.heap.size + 1 ≤ wr.drew.heap.size ∧ Below (W.heap.size + 1) (W.alloc (.cells #[.int .i64 V.epoch, .slice a1 V.chain.length k1, .slice a2 V.since.length k2, .slice a3 V.boot.length k3] 24)) wr.drew := ⟨y0, y1, y2, y3, hz, bx.drew⟩
          have keep : ∀ X X' : World, (X.cell? ⟨W.heap.size, 0, none⟩ = some (.int .i64 V.epoch) ∧ X.cell? ⟨W.heap.size, 1, none⟩ = some (.slice a1 V.chain.length k1) ∧ X.cell? ⟨W.heap.size, 2, none⟩ = some (.slice a2 V.since.length k2) ∧ X.cell? ⟨W.heap.size, 3, none⟩ = some (.slice a3 V.boot.length k3) ∧ W.heap.size + 1 ≤ X.heap.size ∧ Below (W.heap.size + 1) (W.alloc (.cells #[.int .i64 V.epoch, .slice a1 V.chain.length k1, .slice a2 V.since.length k2, .slice a3 V.boot.length k3] 24)) X) → Below X.heap.size X X' → X'.cell? ⟨W.heap.size, 0, none⟩ = some (.int .i64 V.epoch) ∧ X'.cell? ⟨W.heap.size, 1, none⟩ = some (.slice a1 V.chain.length k1) ∧ X'.cell? ⟨W.heap.size, 2, none⟩ = some (.slice a2 V.since.length k2) ∧ X'.cell? ⟨W.heap.size, 3, none⟩ = some (.slice a3 V.boot.length k3) ∧ W.heap.size + 1 ≤ X'.heap.size ∧ Below (W.heap.size + 1) (W.alloc (.cells #[.int .i64 V.epoch, .slice a1 V.chain.length k1, .slice a2 V.since.length k2, .slice a3 V.boot.length k3] 24)) X' := by
            rintro X X' ⟨_, _, _, _, hz, hk⟩ k
            have hk' := below_more hk hz k
            obtain ⟨u0, u1, u2, u3⟩ := box4 hk'
            exact ⟨u0, u1, u2, u3, Nat.le_trans hz k.size, hk'⟩
          have low : ∀ X : World, (X.cell? ⟨W.heap.size, 0, none⟩ = some (.int .i64 V.epoch) ∧ X.cell? ⟨W.heap.size, 1, none⟩ = some (.slice a1 V.chain.length k1) ∧ X.cell? ⟨W.heap.size, 2, none⟩ = some (.slice a2 V.since.length k2) ∧ X.cell? ⟨W.heap.size, 3, none⟩ = some (.slice a3 V.boot.length k3) ∧ W.heap.size + 1 ≤ X.heap.size ∧ Below (W.heap.size + 1) (W.alloc (.cells #[.int .i64 V.epoch, .slice a1 V.chain.length k1, .slice a2 V.since.length k2, .slice a3 V.boot.length k3] 24)) X) → Below W.heap.size W X := fun X h => below_one' h.2.2.2.2.2
          clear y0 y1 y2 y3
          go_region_held3 (fun X => X.cell? ⟨W.heap.size, 0, none⟩ = some (.int .i64 V.epoch) ∧ X.cell? ⟨W.heap.size, 1, none⟩ = some (.slice a1 V.chain.length k1) ∧ X.cell? ⟨W.heap.size, 2, none⟩ = some (.slice a2 V.since.length k2) ∧ X.cell? ⟨W.heap.size, 3, none⟩ = some (.slice a3 V.boot.length k3) ∧ W.heap.size + 1 ≤ X.heap.size ∧ Below (W.heap.size + 1) (W.alloc (.cells #[.int .i64 V.epoch, .slice a1 V.chain.length k1, .slice a2 V.since.length k2, .slice a3 V.boot.length k3] 24)) X) (first | exact hh | exact keep _ _ (by assumption) (by assumption))
            (first
              | ((with_reducible refine (d1.out _ ?_).mono ?_); exact low _ (by assumption); rintro e w5 ⟨rfl, hb5⟩)
              | ((with_reducible refine (d3.out _ ?_).mono ?_); exact low _ (by assumption); rintro e w6 ⟨rfl, hb6⟩)
              | ((with_reducible refine (d4.out _ ?_).mono ?_); exact low _ (by assumption); rintro e w7 ⟨rfl, hb7⟩)
              | ((with_reducible refine (d5.out _ ?_).mono ?_); exact low _ (by assumption); rintro e w8 ⟨rfl, hb8⟩))
          go_wp2_with fail
          go_ret
          exact ⟨rfl, low _ (by assumption)⟩
  · have C2 := Lib.hid (C2'.out false (decide_eq_false hs).symm)
    go_enter Try.func4, Try.ntmps4
    go_wp2_with fail
    refine (C1.out _).mono ?_
    rintro e w1 ⟨rfl, hb1⟩
    have bx1 : Below (W.heap.size + 1) _ w1 := hb1.mono (by simp)
    obtain ⟨y0, y1, y2, y3⟩ := box4 bx1
    have hz1 : W.heap.size + 1 ≤ w1.heap.size := by have := bx1.size; simpa using this
    go_wp2_with fail
    refine (C2.out _ (below_one' bx1)).mono ?_
    rintro e w2 ⟨rfl, hb2⟩
    have bx2 := below_more bx1 hz1 hb2
    obtain ⟨y0, y1, y2, y3⟩ := box4 bx2
    have hz2 : W.heap.size + 1 ≤ w2.heap.size := Nat.le_trans hz1 hb2.size
    go_wp2_with fail
    go_ret
    exact ⟨rfl, below_one' bx2⟩
end Go.Proofs.Ytigojackdkaanaa
