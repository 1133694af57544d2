/-
  The walk of bucketlineref18.Put: turned from this writer's text on view.Put.
-/
import Derived.Test.YtigojackdkaanaaVwRef
import Derived.Test.YtigojackdkaanaaVwPut
import Derived.Test.YtigojackdkaanaaVwNumRef
namespace Go.Proofs.Ytigojackdkaanaa
open Go.RowKit

theorem rN_any (n : Int) (w : World) : Calls Try.prog 65 #[.int .i64 n] w fun e w' => e = .returned (.string (pN n)) ∧ Below w.heap.size w w' := refPut_any n w

set_option maxRecDepth 100000 in
set_option maxHeartbeats 3200000 in
theorem refVPut_any (B : Nat) (v : Value) (V : VW) (s : ByteArray) (hs0 : putV V = s) (w : World) (h : IsView B w v V) (hB : B ≤ w.heap.size) (hsm : SmallV V) :
    Calls Try.prog 39 #[v] w fun e w' => e = .returned (.string s) ∧ Below w.heap.size w w' := by
  have HV := Lib.hid h
  obtain ⟨he, cc, sv, bt, rfl, h1, h2, h3⟩ := h
  have H1 := Lib.hid h1
  have H2 := Lib.hid h2
  have H3 := Lib.hid h3
  obtain ⟨a1, k1, rfl⟩ := h1.form
  obtain ⟨a2, k2, rfl⟩ := h2.form
  obtain ⟨a3, k3, rfl⟩ := h3.form
  clear h1 h2 h3
  have C1' := Lib.hid (fun (b : Bool) (hb : b = rightB V) => refRight_any B _ V _ (view_alloc HV.out hB (.cells #[.int .i64 V.epoch, .slice a1 V.chain.length k1, .slice a2 V.since.length k2, .slice a3 V.boot.length k3] 41)) (le_alloc hB (.cells #[.int .i64 V.epoch, .slice a1 V.chain.length k1, .slice a2 V.since.length k2, .slice a3 V.boot.length k3] 41)) hsm b hb)
  cases hr : rightB V with
  | false =>
    have C1 := Lib.hid (C1'.out false hr.symm)
    obtain rfl : ⟨#[]⟩ = s := by rw [← hs0, putV, if_neg (by rw [hr]; decide)]
    clear hr C1' hs0
    go_enter Try.func39, Try.ntmps39
    go_wp2_with fail
    refine C1.out.mono ?_
    rintro e w1 ⟨rfl, hb1⟩
    go_wp2_with fail
    go_ret
    exact ⟨rfl, bstep ((Below.refl _ _).alloc (Nat.le_refl _) _) hb1⟩
  | true =>
    have C1 := Lib.hid (C1'.out true hr.symm)
    have hR := (rightB_iff V).1 hr
    have hn6 := hR.n2
    have hls : V.since.length = V.chain.length := hR.s
    have hlb : V.boot.length = V.chain.length := hR.b
    have HLS := Lib.hid hls
    have HLB := Lib.hid hlb
    have HS := Lib.hid (show trip V V.chain.length = s by rw [← hs0, putV, if_pos hr])
    clear hr C1' hs0 hls hlb hR
    go_enter Try.func39, Try.ntmps39
    go_wp2_with fail
    refine C1.out.mono ?_
    rintro e w1 ⟨rfl, hb1⟩
    have bx1 : Below (w.heap.size + 1) _ w1 := hb1.mono (by simp)
    have mkS : ∀ X : World, Below (w.heap.size + 1) (w.alloc (.cells #[.int .i64 V.epoch, .slice a1 V.chain.length k1, .slice a2 V.since.length k2, .slice a3 V.boot.length k3] 41)) X → X.cell? ⟨w.heap.size, 0, none⟩ = some (.int .i64 V.epoch) ∧ X.cell? ⟨w.heap.size, 1, none⟩ = some (.slice a1 V.chain.length k1) ∧ X.cell? ⟨w.heap.size, 2, none⟩ = some (.slice a2 V.since.length k2) ∧ X.cell? ⟨w.heap.size, 3, none⟩ = some (.slice a3 V.boot.length k3) ∧ w.heap.size + 1 ≤ X.heap.size ∧ Below (w.heap.size + 1) (w.alloc (.cells #[.int .i64 V.epoch, .slice a1 V.chain.length k1, .slice a2 V.since.length k2, .slice a3 V.boot.length k3] 41)) X := by
      intro X hk
      obtain ⟨u0, u1, u2, u3⟩ := box4 hk
      exact ⟨u0, u1, u2, u3, by have := hk.size; simpa using this, hk⟩
    have keep : ∀ X X' : World, (X.cell? ⟨w.heap.size, 0, none⟩ = some (.int .i64 V.epoch) ∧ X.cell? ⟨w.heap.size, 1, none⟩ = some (.slice a1 V.chain.length k1) ∧ X.cell? ⟨w.heap.size, 2, none⟩ = some (.slice a2 V.since.length k2) ∧ X.cell? ⟨w.heap.size, 3, none⟩ = some (.slice a3 V.boot.length k3) ∧ w.heap.size + 1 ≤ X.heap.size ∧ Below (w.heap.size + 1) (w.alloc (.cells #[.int .i64 V.epoch, .slice a1 V.chain.length k1, .slice a2 V.since.length k2, .slice a3 V.boot.length k3] 41)) X) → Below X.heap.size X X' → X'.cell? ⟨w.heap.size, 0, none⟩ = some (.int .i64 V.epoch) ∧ X'.cell? ⟨w.heap.size, 1, none⟩ = some (.slice a1 V.chain.length k1) ∧ X'.cell? ⟨w.heap.size, 2, none⟩ = some (.slice a2 V.since.length k2) ∧ X'.cell? ⟨w.heap.size, 3, none⟩ = some (.slice a3 V.boot.length k3) ∧ w.heap.size + 1 ≤ X'.heap.size ∧ Below (w.heap.size + 1) (w.alloc (.cells #[.int .i64 V.epoch, .slice a1 V.chain.length k1, .slice a2 V.since.length k2, .slice a3 V.boot.length k3] 41)) X' := fun X X' h k => mkS X' (below_more h.2.2.2.2.2 h.2.2.2.2.1 k)
    have hh := mkS w1.drew bx1.drew
    have D1 := rN_any V.epoch
    have D2 := rN_any (V.chain.length : Int)
    have z1 := pN_size V.epoch
    have z2 := pN_size (V.chain.length : Int)
    have ht0 : trip V 0 = pN V.epoch ++ pN (V.chain.length : Int) := rfl
    obtain ⟨P1, hP1⟩ : ∃ P, pN V.epoch = P := ⟨_, rfl⟩
    obtain ⟨P2, hP2⟩ : ∃ P, pN (V.chain.length : Int) = P := ⟨_, rfl⟩
    rw [hP1] at D1 z1 ht0
    rw [hP2] at D2 z2 ht0
    have d1 := Lib.hid D1
    have d2 := Lib.hid D2
    have HT0 := Lib.hid ht0
    clear D1 D2 hP1 hP2 ht0
    have a12 : ∀ W : World, (Op.stringOp .add (P1) (P2)).run Try.prog W = .ok (.string ((P1) ++ (P2))) W := fun W => run_string_add_sum (P := Try.prog) (w := W) _ _ (by first | omega | (simp only [ByteArray.size_append]; omega))
    go_wp2_with fail
    go_region_held3 (fun X => X.cell? ⟨w.heap.size, 0, none⟩ = some (.int .i64 V.epoch) ∧ X.cell? ⟨w.heap.size, 1, none⟩ = some (.slice a1 V.chain.length k1) ∧ X.cell? ⟨w.heap.size, 2, none⟩ = some (.slice a2 V.since.length k2) ∧ X.cell? ⟨w.heap.size, 3, none⟩ = some (.slice a3 V.boot.length k3) ∧ w.heap.size + 1 ≤ X.heap.size ∧ Below (w.heap.size + 1) (w.alloc (.cells #[.int .i64 V.epoch, .slice a1 V.chain.length k1, .slice a2 V.since.length k2, .slice a3 V.boot.length k3] 41)) X) (first | exact hh | exact keep _ _ (by assumption) (by assumption))
      (first
        | ((with_reducible refine (d1.out _).mono ?_); rintro e w2 ⟨rfl, hb2⟩)
        | ((with_reducible refine (d2.out _).mono ?_); rintro e w3 ⟨rfl, hb3⟩))
    have hS3 := keep _ _ (keep _ _ hh hb2) hb3
    obtain ⟨y0, y1, y2, y3, _, bx3⟩ := hS3
    clear a12 hh keep
    go_wp2_with fail
    go_loopw [4, 5] (fun t4 t5 wr => ∃ k : Nat, k ≤ V.chain.length ∧ t5 = .int .i64 k ∧ t4 = .string (trip V k) ∧ Below (w.heap.size + 1) (w.alloc (.cells #[.int .i64 V.epoch, .slice a1 V.chain.length k1, .slice a2 V.since.length k2, .slice a3 V.boot.length k3] 41)) wr) (fun _ t5 _ => V.chain.length - (intOf t5).toNat)
    case atStart => exact ⟨0, Nat.zero_le _, rfl, by rw [HT0.out], bx3⟩
    case round =>
      obtain ⟨k, hk, rfl, rfl, bx⟩ := hrel
      obtain ⟨y0, y1, y2, y3, hz, _⟩ := mkS wr bx
      have bw := below_one' bx
      by_cases hlt : k < V.chain.length
      · have hlt2 : k < V.since.length := by have := HLS.out; omega
        have hlt3 : k < V.boot.length := by have := HLB.out; omega
        obtain ⟨b1, o1, q1, he, _, _, hc1⟩ := (H1.out.keep bw hB).get k hlt
        obtain ⟨rfl, -, rfl⟩ : a1 = some ⟨b1, o1, none⟩ ∧ V.chain.length = V.chain.length ∧ k1 = q1 := by injection he with e1 e2 e3; exact ⟨e1, e2, e3⟩
        clear he
        obtain ⟨b2, o2, q2, he, _, _, hc2⟩ := (H2.out.keep bw hB).get k hlt2
        obtain ⟨rfl, -, rfl⟩ : a2 = some ⟨b2, o2, none⟩ ∧ V.since.length = V.since.length ∧ k2 = q2 := by injection he with e1 e2 e3; exact ⟨e1, e2, e3⟩
        clear he
        obtain ⟨b3, o3, q3, he, _, _, hc3⟩ := (H3.out.keep bw hB).get k hlt3
        obtain ⟨rfl, -, rfl⟩ : a3 = some ⟨b3, o3, none⟩ ∧ V.boot.length = V.boot.length ∧ k3 = q3 := by injection he with e1 e2 e3; exact ⟨e1, e2, e3⟩
        clear he
        obtain ⟨y, hy⟩ : ∃ y, V.chain[k] = y := ⟨_, rfl⟩
        obtain ⟨ys, hys⟩ : ∃ y, V.since[k] = y := ⟨_, rfl⟩
        obtain ⟨yb, hyb⟩ : ∃ y, V.boot[k] = y := ⟨_, rfl⟩
        have ht : trip V (k + 1) = trip V k ++ pN y ++ pN ys ++ pN yb := by
          rw [trip, getD_lt hlt, getD_lt hlt2, getD_lt hlt3, hy, hys, hyb]
          simp only [ByteArray.append_assoc]
        rw [hy] at hc1
        rw [hys] at hc2
        rw [hyb] at hc3
        clear hy hys hyb
        have j1 : (0 : Int) ≤ (k : Int) := by omega
        have j2 : (k : Int) < (V.chain.length : Int) := by omega
        have j3 : (k : Int) < (V.since.length : Int) := by omega
        have j4 : (k : Int) < (V.boot.length : Int) := by omega
        have E1 := rN_any y
        have E2 := rN_any ys
        have E3 := rN_any yb
        have u1 := pN_size y
        have u2 := pN_size ys
        have u3 := pN_size yb
        have u4 := trip_size V k
        obtain ⟨Q1, hQ1⟩ : ∃ P, pN y = P := ⟨_, rfl⟩
        obtain ⟨Q2, hQ2⟩ : ∃ P, pN ys = P := ⟨_, rfl⟩
        obtain ⟨Q3, hQ3⟩ : ∃ P, pN yb = P := ⟨_, rfl⟩
        obtain ⟨T, hT⟩ : ∃ P, trip V k = P := ⟨_, rfl⟩
        rw [hQ1] at E1 u1 ht
        rw [hQ2] at E2 u2 ht
        rw [hQ3] at E3 u3 ht
        rw [hT] at u4 ht
        rw [hT]
        have g1 := Lib.hid E1
        have g2 := Lib.hid E2
        have g3 := Lib.hid E3
        have HT := Lib.hid ht
        clear E1 E2 E3 hQ1 hQ2 hQ3 hT ht
        have a1' : ∀ W : World, (Op.stringOp .add (T) (Q1)).run Try.prog W = .ok (.string ((T) ++ (Q1))) W := fun W => run_string_add_sum (P := Try.prog) (w := W) _ _ (by first | omega | (simp only [ByteArray.size_append]; omega))
        have a2' : ∀ W : World, (Op.stringOp .add (T ++ Q1) (Q2)).run Try.prog W = .ok (.string ((T ++ Q1) ++ (Q2))) W := fun W => run_string_add_sum (P := Try.prog) (w := W) _ _ (by first | omega | (simp only [ByteArray.size_append]; omega))
        have a3' : ∀ W : World, (Op.stringOp .add (T ++ Q1 ++ Q2) (Q3)).run Try.prog W = .ok (.string ((T ++ Q1 ++ Q2) ++ (Q3))) W := fun W => run_string_add_sum (P := Try.prog) (w := W) _ _ (by first | omega | (simp only [ByteArray.size_append]; omega))
        have mkK : ∀ X : World, Below (w.heap.size + 1) (w.alloc (.cells #[.int .i64 V.epoch, .slice (some ⟨b1, o1, none⟩) V.chain.length k1, .slice (some ⟨b2, o2, none⟩) V.since.length k2, .slice (some ⟨b3, o3, none⟩) V.boot.length k3] 41)) X → Below wr.heap.size wr X → X.cell? ⟨w.heap.size, 0, none⟩ = some (.int .i64 V.epoch) ∧ X.cell? ⟨w.heap.size, 1, none⟩ = some (.slice (some ⟨b1, o1, none⟩) V.chain.length k1) ∧ X.cell? ⟨w.heap.size, 2, none⟩ = some (.slice (some ⟨b2, o2, none⟩) V.since.length k2) ∧ X.cell? ⟨w.heap.size, 3, none⟩ = some (.slice (some ⟨b3, o3, none⟩) V.boot.length k3) ∧ X.cell? ⟨b1, o1 + k, none⟩ = some (.int .i64 y) ∧ X.cell? ⟨b2, o2 + k, none⟩ = some (.int .i64 ys) ∧ X.cell? ⟨b3, o3 + k, none⟩ = some (.int .i64 yb) ∧ w.heap.size + 1 ≤ X.heap.size ∧ Below (w.heap.size + 1) (w.alloc (.cells #[.int .i64 V.epoch, .slice (some ⟨b1, o1, none⟩) V.chain.length k1, .slice (some ⟨b2, o2, none⟩) V.since.length k2, .slice (some ⟨b3, o3, none⟩) V.boot.length k3] 41)) X := by
          intro X hk hk2
          obtain ⟨u0, u1, u2, u3, u4, u5⟩ := mkS X hk
          exact ⟨u0, u1, u2, u3, (hk2.cell (p := ⟨b1, o1 + k, none⟩) (World.block_lt_of_cell? _ _ hc1)).trans hc1, (hk2.cell (p := ⟨b2, o2 + k, none⟩) (World.block_lt_of_cell? _ _ hc2)).trans hc2, (hk2.cell (p := ⟨b3, o3 + k, none⟩) (World.block_lt_of_cell? _ _ hc3)).trans hc3, u4, u5⟩
        have hK0 := mkK wr.drew bx.drew (Below.refl _ _).drew
        have keepK : ∀ X X' : World, (X.cell? ⟨w.heap.size, 0, none⟩ = some (.int .i64 V.epoch) ∧ X.cell? ⟨w.heap.size, 1, none⟩ = some (.slice (some ⟨b1, o1, none⟩) V.chain.length k1) ∧ X.cell? ⟨w.heap.size, 2, none⟩ = some (.slice (some ⟨b2, o2, none⟩) V.since.length k2) ∧ X.cell? ⟨w.heap.size, 3, none⟩ = some (.slice (some ⟨b3, o3, none⟩) V.boot.length k3) ∧ X.cell? ⟨b1, o1 + k, none⟩ = some (.int .i64 y) ∧ X.cell? ⟨b2, o2 + k, none⟩ = some (.int .i64 ys) ∧ X.cell? ⟨b3, o3 + k, none⟩ = some (.int .i64 yb) ∧ w.heap.size + 1 ≤ X.heap.size ∧ Below (w.heap.size + 1) (w.alloc (.cells #[.int .i64 V.epoch, .slice (some ⟨b1, o1, none⟩) V.chain.length k1, .slice (some ⟨b2, o2, none⟩) V.since.length k2, .slice (some ⟨b3, o3, none⟩) V.boot.length k3] 41)) X) → Below X.heap.size X X' → X'.cell? ⟨w.heap.size, 0, none⟩ = some (.int .i64 V.epoch) ∧ X'.cell? ⟨w.heap.size, 1, none⟩ = some (.slice (some ⟨b1, o1, none⟩) V.chain.length k1) ∧ X'.cell? ⟨w.heap.size, 2, none⟩ = some (.slice (some ⟨b2, o2, none⟩) V.since.length k2) ∧ X'.cell? ⟨w.heap.size, 3, none⟩ = some (.slice (some ⟨b3, o3, none⟩) V.boot.length k3) ∧ X'.cell? ⟨b1, o1 + k, none⟩ = some (.int .i64 y) ∧ X'.cell? ⟨b2, o2 + k, none⟩ = some (.int .i64 ys) ∧ X'.cell? ⟨b3, o3 + k, none⟩ = some (.int .i64 yb) ∧ w.heap.size + 1 ≤ X'.heap.size ∧ Below (w.heap.size + 1) (w.alloc (.cells #[.int .i64 V.epoch, .slice (some ⟨b1, o1, none⟩) V.chain.length k1, .slice (some ⟨b2, o2, none⟩) V.since.length k2, .slice (some ⟨b3, o3, none⟩) V.boot.length k3] 41)) X' := by
          rintro X X' ⟨_, _, _, _, r9, r0, r1, hz', hk'⟩ k'
          obtain ⟨u0, u1, u2, u3, u4, u5⟩ := mkS X' (below_more hk' hz' k')
          exact ⟨u0, u1, u2, u3, (k'.cell (p := ⟨b1, o1 + k, none⟩) (World.block_lt_of_cell? _ _ r9)).trans r9, (k'.cell (p := ⟨b2, o2 + k, none⟩) (World.block_lt_of_cell? _ _ r0)).trans r0, (k'.cell (p := ⟨b3, o3 + k, none⟩) (World.block_lt_of_cell? _ _ r1)).trans r1, u4, u5⟩
        go_wp2_with fail
        go_region_held3 (fun X => X.cell? ⟨w.heap.size, 0, none⟩ = some (.int .i64 V.epoch) ∧ X.cell? ⟨w.heap.size, 1, none⟩ = some (.slice (some ⟨b1, o1, none⟩) V.chain.length k1) ∧ X.cell? ⟨w.heap.size, 2, none⟩ = some (.slice (some ⟨b2, o2, none⟩) V.since.length k2) ∧ X.cell? ⟨w.heap.size, 3, none⟩ = some (.slice (some ⟨b3, o3, none⟩) V.boot.length k3) ∧ X.cell? ⟨b1, o1 + k, none⟩ = some (.int .i64 y) ∧ X.cell? ⟨b2, o2 + k, none⟩ = some (.int .i64 ys) ∧ X.cell? ⟨b3, o3 + k, none⟩ = some (.int .i64 yb) ∧ w.heap.size + 1 ≤ X.heap.size ∧ Below (w.heap.size + 1) (w.alloc (.cells #[.int .i64 V.epoch, .slice (some ⟨b1, o1, none⟩) V.chain.length k1, .slice (some ⟨b2, o2, none⟩) V.since.length k2, .slice (some ⟨b3, o3, none⟩) V.boot.length k3] 41)) X) (first | exact hK0 | exact keepK _ _ (by assumption) (by assumption))
          (first
            | ((with_reducible refine (g1.out _).mono ?_); rintro e w4 ⟨rfl, hb4⟩)
            | ((with_reducible refine (g2.out _).mono ?_); rintro e w5 ⟨rfl, hb5⟩)
            | ((with_reducible refine (g3.out _).mono ?_); rintro e w6 ⟨rfl, hb6⟩))
        have hK6 := keepK _ _ (keepK _ _ (keepK _ _ hK0 hb4) hb5) hb6
        have bx6 := hK6.2.2.2.2.2.2.2.2
        clear a1' a2' a3'
        go_wp2_with fail
        go_roundw
        case rel => exact ⟨k + 1, by omega, by go_num, by rw [HT.out], bx6⟩
        case measure => simp [intOf]; omega
      · have g : ¬ ((k : Int) < (V.chain.length : Int)) := by omega
        have hkl : k = V.chain.length := by omega
        have HKL := Lib.hid hkl
        clear hkl
        go_wp2_with fail
        go_ret
        exact ⟨ret_str (by rw [HKL.out]; exact HS.out), bw⟩
end Go.Proofs.Ytigojackdkaanaa
