/-
 The walk of bucketlineref18.Right. Printed by gen_vwref.py of this claim's writer.
-/
import Derived.Test.YtapgjjfndbfnpaaDoorCvOf
import Derived.BigQuiet
import Derived.Deep.DeepCutAuto
import Derived.IntWalk
namespace Go.Proofs.YtapgjjfndbfnpaaDoor.Vw
open Go.RowKit

set_option maxRecDepth 100000 in
set_option maxHeartbeats 6400000 in
theorem refRight_any (B : Nat) (v : Value) (V : VW) (w : World) (h : IsView B w v V) (hB : B ≤ w.heap.size) (hsm : SmallV V) (b : Bool) (hb : b = rightB V) :
  Calls Tryd.prog 44 #[v] w fun e w' => e = .returned (.bool b) ∧ Below w.heap.size w w' := by
 obtain ⟨he, c, s, bt, rfl, h1, h2, h3⟩ := h
 have H1 := Lib.hid h1
 have H2 := Lib.hid h2
 have H3 := Lib.hid h3
 obtain ⟨a1, k1, rfl⟩ := h1.form
 obtain ⟨a2, k2, rfl⟩ := h2.form
 obtain ⟨a3, k3, rfl⟩ := h3.form
 obtain ⟨l1, l2, l3⟩ := hsm
 have Hb := Lib.hid hb
 clear hb h1 h2 h3
 by_cases hpre : 1 ≤ V.epoch ∧ V.epoch ≤ 274877906944 ∧ 1 ≤ V.chain.length ∧ V.chain.length ≤ 6 ∧ V.since.length = V.chain.length ∧ V.boot.length = V.chain.length
 ·obtain ⟨p1, p2, p3, p4, p5, p6⟩ := hpre
  have g5 : ((V.since.length : Int) != (V.chain.length : Int)) = false := by rw [bne_eq_false_iff_eq]; omega
  have g6 : ((V.boot.length : Int) != (V.chain.length : Int)) = false := by rw [bne_eq_false_iff_eq]; omega
  have P5 := Lib.hid p5
  have P6 := Lib.hid p6
  clear p5 p6
  go_enter Tryd.func44, Tryd.ntmps44
  go_wp2_with fail
  go_loopw [2, 3] (fun _ t3 wr => ∃ k : Nat, k ≤ V.chain.length ∧ t3 = .int .i64 k ∧ (∀ i, i < k → OkAt V i) ∧ Below (w.heap.size + 1) (w.alloc (.cells #[.int .i64 V.epoch, .slice a1 V.chain.length k1, .slice a2 V.since.length k2, .slice a3 V.boot.length k3] 68)) wr) (fun _ i _ => V.chain.length - (intOf i).toNat)
  case atStart => exact ⟨0, Nat.zero_le _, rfl, fun i h => absurd h (by omega), Below.refl _ _⟩
  case round =>
   obtain ⟨k, hk, rfl, hok, bx⟩ := hrel
   have Hok := Lib.hid hok
   clear hok
   obtain ⟨y0, y1, y2, y3⟩ := box4 bx
   have hz : w.heap.size + 1 ≤ wr.heap.size := by have := bx.size; simpa using this
   have bw := below_one' bx
   by_cases hlt : k < V.chain.length
   ·have hlt2 : k < V.since.length := by have := P5.out; omega
    have hlt3 : k < V.boot.length := by have := P6.out; omega
    obtain ⟨b1, o1, q1, he1, _, _, hc1⟩ := (H1.out.keep bw hB).get k hlt
    obtain ⟨rfl, -, rfl⟩ : a1 = some ⟨b1, o1, none⟩ ∧ V.chain.length = V.chain.length ∧ k1 = q1 := by injection he1 with e1 e2 e3; exact ⟨e1, e2, e3⟩
    clear he1
    obtain ⟨b2, o2, q2, he2, _, _, hc2⟩ := (H2.out.keep bw hB).get k hlt2
    obtain ⟨rfl, -, rfl⟩ : a2 = some ⟨b2, o2, none⟩ ∧ V.since.length = V.since.length ∧ k2 = q2 := by injection he2 with e1 e2 e3; exact ⟨e1, e2, e3⟩
    clear he2
    obtain ⟨b3, o3, q3, he3, _, _, hc3⟩ := (H3.out.keep bw hB).get k hlt3
    obtain ⟨rfl, -, rfl⟩ : a3 = some ⟨b3, o3, none⟩ ∧ V.boot.length = V.boot.length ∧ k3 = q3 := by injection he3 with e1 e2 e3; exact ⟨e1, e2, e3⟩
    clear he3
    obtain ⟨ci, hci⟩ : ∃ x, V.chain[k] = x := ⟨_, rfl⟩
    obtain ⟨si, hsi⟩ : ∃ x, V.since[k] = x := ⟨_, rfl⟩
    obtain ⟨bi, hbi⟩ : ∃ x, V.boot[k] = x := ⟨_, rfl⟩
    obtain ⟨pr, hpr⟩ : ∃ x, prevI V.since k = x := ⟨_, rfl⟩
    have hstep := okAt_step V k ci si bi hlt P5.out P6.out hci hsi hbi
    rw [hpr] at hstep
    have Hstep := Lib.hid hstep
    rw [hci] at hc1
    rw [hsi] at hc2
    rw [hbi] at hc3
    have i1 : (0 : Int) ≤ (k : Int) := by omega
    have i2 : (k : Int) < (V.chain.length : Int) := by omega
    have i3 : (k : Int) < (V.since.length : Int) := by omega
    have i4 : (k : Int) < (V.boot.length : Int) := by omega
    clear hci hsi hbi hstep
    go_upto_region 6 with fail
    go_cut [115] (fun s115 wx => (s115 = .bool true ∧ ¬ (1 ≤ ci ∧ ci ≤ 100 ∧ 1 ≤ si ∧ si ≤ V.epoch ∧ 0 ≤ bi ∧ bi ≤ 274877906944 ∧ pr ≤ si) ∧ wx = wr.drew) ∨ (s115 = .bool false ∧ (1 ≤ ci ∧ ci ≤ 100 ∧ 1 ≤ si ∧ si ≤ V.epoch ∧ 0 ≤ bi ∧ bi ≤ 274877906944 ∧ pr ≤ si) ∧ wx = wr.drew))
    case first => as_aux_lemma =>
     by_cases d0 : ci < 1
     ·have D0 : decide (ci < 1) = true := decide_eq_true d0
      refine region_begin (S := fun X' => X'.cell? ⟨w.heap.size, 0, none⟩ = some (.int .i64 V.epoch) ∧ X'.cell? ⟨w.heap.size, 1, none⟩ = some (.slice (some ⟨b1, o1, none⟩) V.chain.length k1) ∧ X'.cell? ⟨w.heap.size, 2, none⟩ = some (.slice (some ⟨b2, o2, none⟩) V.since.length k2) ∧ X'.cell? ⟨w.heap.size, 3, none⟩ = some (.slice (some ⟨b3, o3, none⟩) V.boot.length k3) ∧ X'.cell? ⟨b1, o1 + k, none⟩ = some (.int .i64 ci) ∧ X'.cell? ⟨b2, o2 + k, none⟩ = some (.int .i64 si) ∧ X'.cell? ⟨b3, o3 + k, none⟩ = some (.int .i64 bi)) 66 rfl (by kernel_rfl) ⟨y0, y1, y2, y3, hc1, hc2, hc3⟩ (fun hH0 => ?_)
      refine wpAnyH_take (i := 0) (oi := ?al0_0) (v := ?bl0_0) ?cl0_0 (by kernel_rfl) (by kernel_rfl) (by kernel_rfl) ?el0_0 ?dl0_0 hH0 ?_
      case cl0_0 => simp only [List.getElem?_toArray]; rfl
      case el0_0 => exact fun _ _ _ h => h
      case dl0_0 => refine Or.inl ⟨by rfl, ?_⟩; intro W hSw; (try dsimp only at hSw); go_simp; try with_reducible rfl
      simp only [Act.put, List.setIfInBounds_toArray, List.set_cons_zero, List.set_cons_succ]
      refine wpAnyH_take (i := 1) (oi := ?al0_1) (v := ?bl0_1) ?cl0_1 (by kernel_rfl) (by kernel_rfl) (by kernel_rfl) ?el0_1 ?dl0_1 hH0 ?_
      case cl0_1 => simp only [List.getElem?_toArray]; rfl
      case el0_1 => exact fun _ _ _ h => h
      case dl0_1 => refine Or.inl ⟨by rfl, ?_⟩; intro W hSw; (try dsimp only at hSw); go_simp; try with_reducible rfl
      simp only [Act.put, List.setIfInBounds_toArray, List.set_cons_zero, List.set_cons_succ]
      refine wpAnyH_take (i := 2) (oi := ?al0_2) (v := ?bl0_2) ?cl0_2 (by kernel_rfl) (by kernel_rfl) (by kernel_rfl) ?el0_2 ?dl0_2 hH0 ?_
      case cl0_2 => simp only [List.getElem?_toArray]; rfl
      case el0_2 => exact fun _ _ _ h => h
      case dl0_2 => refine Or.inl ⟨by rfl, ?_⟩; intro W hSw; (try dsimp only at hSw); go_simp; try with_reducible rfl
      simp only [Act.put, List.setIfInBounds_toArray, List.set_cons_zero, List.set_cons_succ]
      refine wpAnyH_take (i := 3) (oi := ?al0_3) (v := ?bl0_3) ?cl0_3 (by kernel_rfl) (by kernel_rfl) (by kernel_rfl) ?el0_3 ?dl0_3 hH0 ?_
      case cl0_3 => simp only [List.getElem?_toArray]; rfl
      case el0_3 => exact fun _ _ _ h => h
      case dl0_3 => refine Or.inl ⟨by rfl, ?_⟩; intro W hSw; (try dsimp only at hSw); go_simp; try with_reducible rfl
      simp only [Act.put, List.setIfInBounds_toArray, List.set_cons_zero, List.set_cons_succ]
      refine wpAnyH_take (i := 4) (oi := ?al0_4) (v := ?bl0_4) ?cl0_4 (by kernel_rfl) (by kernel_rfl) (by kernel_rfl) ?el0_4 ?dl0_4 hH0 ?_
      case cl0_4 => simp only [List.getElem?_toArray]; rfl
      case el0_4 => exact fun _ _ _ h => h
      case dl0_4 => refine Or.inl ⟨by rfl, ?_⟩; intro W hSw; (try dsimp only at hSw); go_simp; try with_reducible rfl
      simp only [Act.put, List.setIfInBounds_toArray, List.set_cons_zero, List.set_cons_succ]
      refine wpAnyH_take (i := 5) (oi := ?al0_5) (v := ?bl0_5) ?cl0_5 (by kernel_rfl) (by kernel_rfl) (by kernel_rfl) ?el0_5 ?dl0_5 hH0 ?_
      case cl0_5 => simp only [List.getElem?_toArray]; rfl
      case el0_5 => exact fun _ _ _ h => h
      case dl0_5 => refine Or.inl ⟨by rfl, ?_⟩; intro W hSw; (try dsimp only at hSw); go_simp; try with_reducible rfl
      simp only [Act.put, List.setIfInBounds_toArray, List.set_cons_zero, List.set_cons_succ]
      refine wpAnyH_take (i := 6) (oi := ?al0_6) (v := ?bl0_6) ?cl0_6 (by kernel_rfl) (by kernel_rfl) (by kernel_rfl) ?el0_6 ?dl0_6 hH0 ?_
      case cl0_6 => simp only [List.getElem?_toArray]; rfl
      case el0_6 => exact fun _ _ _ h => h
      case dl0_6 => refine Or.inl ⟨by rfl, ?_⟩; intro W hSw; (try dsimp only at hSw); go_simp; try with_reducible rfl
      simp only [Act.put, List.setIfInBounds_toArray, List.set_cons_zero, List.set_cons_succ]
      refine wpAnyH_take (i := 7) (oi := ?al0_7) (v := undef) ?cl0_7 (by kernel_rfl) (by kernel_rfl) (by kernel_rfl) ?el0_7 ?dl0_7 hH0 ?_
      case cl0_7 => simp only [List.getElem?_toArray]; rfl
      case el0_7 => exact fun _ _ _ h => h
      case dl0_7 => exact Or.inr ⟨by rfl, rfl⟩
      simp only [Act.put, List.setIfInBounds_toArray, List.set_cons_zero, List.set_cons_succ]
      refine wpAnyH_take (i := 8) (oi := ?al0_8) (v := undef) ?cl0_8 (by kernel_rfl) (by kernel_rfl) (by kernel_rfl) ?el0_8 ?dl0_8 hH0 ?_
      case cl0_8 => simp only [List.getElem?_toArray]; rfl
      case el0_8 => exact fun _ _ _ h => h
      case dl0_8 => exact Or.inr ⟨by rfl, rfl⟩
      simp only [Act.put, List.setIfInBounds_toArray, List.set_cons_zero, List.set_cons_succ]
      refine wpAnyH_take (i := 9) (oi := ?al0_9) (v := undef) ?cl0_9 (by kernel_rfl) (by kernel_rfl) (by kernel_rfl) ?el0_9 ?dl0_9 hH0 ?_
      case cl0_9 => simp only [List.getElem?_toArray]; rfl
      case el0_9 => exact fun _ _ _ h => h
      case dl0_9 => exact Or.inr ⟨by rfl, rfl⟩
      simp only [Act.put, List.setIfInBounds_toArray, List.set_cons_zero, List.set_cons_succ]
      refine wpAnyH_take (i := 10) (oi := ?al0_10) (v := undef) ?cl0_10 (by kernel_rfl) (by kernel_rfl) (by kernel_rfl) ?el0_10 ?dl0_10 hH0 ?_
      case cl0_10 => simp only [List.getElem?_toArray]; rfl
      case el0_10 => exact fun _ _ _ h => h
      case dl0_10 => exact Or.inr ⟨by rfl, rfl⟩
      simp only [Act.put, List.setIfInBounds_toArray, List.set_cons_zero, List.set_cons_succ]
      refine wpAnyH_take (i := 11) (oi := ?al0_11) (v := undef) ?cl0_11 (by kernel_rfl) (by kernel_rfl) (by kernel_rfl) ?el0_11 ?dl0_11 hH0 ?_
      case cl0_11 => simp only [List.getElem?_toArray]; rfl
      case el0_11 => exact fun _ _ _ h => h
      case dl0_11 => exact Or.inr ⟨by rfl, rfl⟩
      simp only [Act.put, List.setIfInBounds_toArray, List.set_cons_zero, List.set_cons_succ]
      refine wpAnyH_take (i := 12) (oi := ?al0_12) (v := undef) ?cl0_12 (by kernel_rfl) (by kernel_rfl) (by kernel_rfl) ?el0_12 ?dl0_12 hH0 ?_
      case cl0_12 => simp only [List.getElem?_toArray]; rfl
      case el0_12 => exact fun _ _ _ h => h
      case dl0_12 => exact Or.inr ⟨by rfl, rfl⟩
      simp only [Act.put, List.setIfInBounds_toArray, List.set_cons_zero, List.set_cons_succ]
      refine wpAnyH_take (i := 13) (oi := ?al0_13) (v := ?bl0_13) ?cl0_13 (by kernel_rfl) (by kernel_rfl) (by kernel_rfl) ?el0_13 ?dl0_13 hH0 ?_
      case cl0_13 => simp only [List.getElem?_toArray]; rfl
      case el0_13 => exact fun _ _ _ h => h
      case dl0_13 => refine Or.inl ⟨by rfl, ?_⟩; intro W hSw; (try dsimp only at hSw); go_simp; try with_reducible rfl
      simp only [Act.put, List.setIfInBounds_toArray, List.set_cons_zero, List.set_cons_succ]
      refine wpAnyH_take (i := 14) (oi := ?al0_14) (v := ?bl0_14) ?cl0_14 (by kernel_rfl) (by kernel_rfl) (by kernel_rfl) ?el0_14 ?dl0_14 hH0 ?_
      case cl0_14 => simp only [List.getElem?_toArray]; rfl
      case el0_14 => exact fun _ _ _ h => h
      case dl0_14 => refine Or.inl ⟨by rfl, ?_⟩; intro W hSw; (try dsimp only at hSw); go_simp; try with_reducible rfl
      simp only [Act.put, List.setIfInBounds_toArray, List.set_cons_zero, List.set_cons_succ]
      refine wpAnyH_take (i := 15) (oi := ?al0_15) (v := undef) ?cl0_15 (by kernel_rfl) (by kernel_rfl) (by kernel_rfl) ?el0_15 ?dl0_15 hH0 ?_
      case cl0_15 => simp only [List.getElem?_toArray]; rfl
      case el0_15 => exact fun _ _ _ h => h
      case dl0_15 => exact Or.inr ⟨by rfl, rfl⟩
      simp only [Act.put, List.setIfInBounds_toArray, List.set_cons_zero, List.set_cons_succ]
      refine wpAnyH_take (i := 16) (oi := ?al0_16) (v := undef) ?cl0_16 (by kernel_rfl) (by kernel_rfl) (by kernel_rfl) ?el0_16 ?dl0_16 hH0 ?_
      case cl0_16 => simp only [List.getElem?_toArray]; rfl
      case el0_16 => exact fun _ _ _ h => h
      case dl0_16 => exact Or.inr ⟨by rfl, rfl⟩
      simp only [Act.put, List.setIfInBounds_toArray, List.set_cons_zero, List.set_cons_succ]
      refine wpAnyH_take (i := 17) (oi := ?al0_17) (v := undef) ?cl0_17 (by kernel_rfl) (by kernel_rfl) (by kernel_rfl) ?el0_17 ?dl0_17 hH0 ?_
      case cl0_17 => simp only [List.getElem?_toArray]; rfl
      case el0_17 => exact fun _ _ _ h => h
      case dl0_17 => exact Or.inr ⟨by rfl, rfl⟩
      simp only [Act.put, List.setIfInBounds_toArray, List.set_cons_zero, List.set_cons_succ]
      refine wpAnyH_take (i := 18) (oi := ?al0_18) (v := undef) ?cl0_18 (by kernel_rfl) (by kernel_rfl) (by kernel_rfl) ?el0_18 ?dl0_18 hH0 ?_
      case cl0_18 => simp only [List.getElem?_toArray]; rfl
      case el0_18 => exact fun _ _ _ h => h
      case dl0_18 => exact Or.inr ⟨by rfl, rfl⟩
      simp only [Act.put, List.setIfInBounds_toArray, List.set_cons_zero, List.set_cons_succ]
      refine wpAnyH_take (i := 19) (oi := ?al0_19) (v := undef) ?cl0_19 (by kernel_rfl) (by kernel_rfl) (by kernel_rfl) ?el0_19 ?dl0_19 hH0 ?_
      case cl0_19 => simp only [List.getElem?_toArray]; rfl
      case el0_19 => exact fun _ _ _ h => h
      case dl0_19 => exact Or.inr ⟨by rfl, rfl⟩
      simp only [Act.put, List.setIfInBounds_toArray, List.set_cons_zero, List.set_cons_succ]
      refine wpAnyH_take (i := 20) (oi := ?al0_20) (v := undef) ?cl0_20 (by kernel_rfl) (by kernel_rfl) (by kernel_rfl) ?el0_20 ?dl0_20 hH0 ?_
      case cl0_20 => simp only [List.getElem?_toArray]; rfl
      case el0_20 => exact fun _ _ _ h => h
      case dl0_20 => exact Or.inr ⟨by rfl, rfl⟩
      simp only [Act.put, List.setIfInBounds_toArray, List.set_cons_zero, List.set_cons_succ]
      refine wpAnyH_take (i := 21) (oi := ?al0_21) (v := ?bl0_21) ?cl0_21 (by kernel_rfl) (by kernel_rfl) (by kernel_rfl) ?el0_21 ?dl0_21 hH0 ?_
      case cl0_21 => simp only [List.getElem?_toArray]; rfl
      case el0_21 => exact fun _ _ _ h => h
      case dl0_21 => refine Or.inl ⟨by rfl, ?_⟩; intro W hSw; (try dsimp only at hSw); go_simp; try with_reducible rfl
      simp only [Act.put, List.setIfInBounds_toArray, List.set_cons_zero, List.set_cons_succ]
      refine wpAnyH_take (i := 22) (oi := ?al0_22) (v := ?bl0_22) ?cl0_22 (by kernel_rfl) (by kernel_rfl) (by kernel_rfl) ?el0_22 ?dl0_22 hH0 ?_
      case cl0_22 => simp only [List.getElem?_toArray]; rfl
      case el0_22 => exact fun _ _ _ h => h
      case dl0_22 => refine Or.inl ⟨by rfl, ?_⟩; intro W hSw; (try dsimp only at hSw); go_simp; try with_reducible rfl
      simp only [Act.put, List.setIfInBounds_toArray, List.set_cons_zero, List.set_cons_succ]
      refine wpAnyH_take (i := 23) (oi := ?al0_23) (v := undef) ?cl0_23 (by kernel_rfl) (by kernel_rfl) (by kernel_rfl) ?el0_23 ?dl0_23 hH0 ?_
      case cl0_23 => simp only [List.getElem?_toArray]; rfl
      case el0_23 => exact fun _ _ _ h => h
      case dl0_23 => exact Or.inr ⟨by rfl, rfl⟩
      simp only [Act.put, List.setIfInBounds_toArray, List.set_cons_zero, List.set_cons_succ]
      refine wpAnyH_take (i := 24) (oi := ?al0_24) (v := undef) ?cl0_24 (by kernel_rfl) (by kernel_rfl) (by kernel_rfl) ?el0_24 ?dl0_24 hH0 ?_
      case cl0_24 => simp only [List.getElem?_toArray]; rfl
      case el0_24 => exact fun _ _ _ h => h
      case dl0_24 => exact Or.inr ⟨by rfl, rfl⟩
      simp only [Act.put, List.setIfInBounds_toArray, List.set_cons_zero, List.set_cons_succ]
      refine wpAnyH_take (i := 25) (oi := ?al0_25) (v := undef) ?cl0_25 (by kernel_rfl) (by kernel_rfl) (by kernel_rfl) ?el0_25 ?dl0_25 hH0 ?_
      case cl0_25 => simp only [List.getElem?_toArray]; rfl
      case el0_25 => exact fun _ _ _ h => h
      case dl0_25 => exact Or.inr ⟨by rfl, rfl⟩
      simp only [Act.put, List.setIfInBounds_toArray, List.set_cons_zero, List.set_cons_succ]
      refine wpAnyH_take (i := 26) (oi := ?al0_26) (v := undef) ?cl0_26 (by kernel_rfl) (by kernel_rfl) (by kernel_rfl) ?el0_26 ?dl0_26 hH0 ?_
      case cl0_26 => simp only [List.getElem?_toArray]; rfl
      case el0_26 => exact fun _ _ _ h => h
      case dl0_26 => exact Or.inr ⟨by rfl, rfl⟩
      simp only [Act.put, List.setIfInBounds_toArray, List.set_cons_zero, List.set_cons_succ]
      refine wpAnyH_take (i := 27) (oi := ?al0_27) (v := undef) ?cl0_27 (by kernel_rfl) (by kernel_rfl) (by kernel_rfl) ?el0_27 ?dl0_27 hH0 ?_
      case cl0_27 => simp only [List.getElem?_toArray]; rfl
      case el0_27 => exact fun _ _ _ h => h
      case dl0_27 => exact Or.inr ⟨by rfl, rfl⟩
      simp only [Act.put, List.setIfInBounds_toArray, List.set_cons_zero, List.set_cons_succ]
      refine wpAnyH_take (i := 28) (oi := ?al0_28) (v := undef) ?cl0_28 (by kernel_rfl) (by kernel_rfl) (by kernel_rfl) ?el0_28 ?dl0_28 hH0 ?_
      case cl0_28 => simp only [List.getElem?_toArray]; rfl
      case el0_28 => exact fun _ _ _ h => h
      case dl0_28 => exact Or.inr ⟨by rfl, rfl⟩
      simp only [Act.put, List.setIfInBounds_toArray, List.set_cons_zero, List.set_cons_succ]
      refine wpAnyH_take (i := 29) (oi := ?al0_29) (v := undef) ?cl0_29 (by kernel_rfl) (by kernel_rfl) (by kernel_rfl) ?el0_29 ?dl0_29 hH0 ?_
      case cl0_29 => simp only [List.getElem?_toArray]; rfl
      case el0_29 => exact fun _ _ _ h => h
      case dl0_29 => exact Or.inr ⟨by rfl, rfl⟩
      simp only [Act.put, List.setIfInBounds_toArray, List.set_cons_zero, List.set_cons_succ]
      refine wpAnyH_take (i := 30) (oi := ?al0_30) (v := undef) ?cl0_30 (by kernel_rfl) (by kernel_rfl) (by kernel_rfl) ?el0_30 ?dl0_30 hH0 ?_
      case cl0_30 => simp only [List.getElem?_toArray]; rfl
      case el0_30 => exact fun _ _ _ h => h
      case dl0_30 => exact Or.inr ⟨by rfl, rfl⟩
      simp only [Act.put, List.setIfInBounds_toArray, List.set_cons_zero, List.set_cons_succ]
      refine wpAnyH_take (i := 31) (oi := ?al0_31) (v := ?bl0_31) ?cl0_31 (by kernel_rfl) (by kernel_rfl) (by kernel_rfl) ?el0_31 ?dl0_31 hH0 ?_
      case cl0_31 => simp only [List.getElem?_toArray]; rfl
      case el0_31 => exact fun _ _ _ h => h
      case dl0_31 => refine Or.inl ⟨by rfl, ?_⟩; intro W hSw; (try dsimp only at hSw); go_simp; try with_reducible rfl
      simp only [Act.put, List.setIfInBounds_toArray, List.set_cons_zero, List.set_cons_succ]
      refine wpAnyH_take (i := 32) (oi := ?al0_32) (v := ?bl0_32) ?cl0_32 (by kernel_rfl) (by kernel_rfl) (by kernel_rfl) ?el0_32 ?dl0_32 hH0 ?_
      case cl0_32 => simp only [List.getElem?_toArray]; rfl
      case el0_32 => exact fun _ _ _ h => h
      case dl0_32 => refine Or.inl ⟨by rfl, ?_⟩; intro W hSw; (try dsimp only at hSw); go_simp; try with_reducible rfl
      simp only [Act.put, List.setIfInBounds_toArray, List.set_cons_zero, List.set_cons_succ]
      refine wpAnyH_take (i := 33) (oi := ?al0_33) (v := undef) ?cl0_33 (by kernel_rfl) (by kernel_rfl) (by kernel_rfl) ?el0_33 ?dl0_33 hH0 ?_
      case cl0_33 => simp only [List.getElem?_toArray]; rfl
      case el0_33 => exact fun _ _ _ h => h
      case dl0_33 => exact Or.inr ⟨by rfl, rfl⟩
      simp only [Act.put, List.setIfInBounds_toArray, List.set_cons_zero, List.set_cons_succ]
      refine wpAnyH_take (i := 34) (oi := ?al0_34) (v := undef) ?cl0_34 (by kernel_rfl) (by kernel_rfl) (by kernel_rfl) ?el0_34 ?dl0_34 hH0 ?_
      case cl0_34 => simp only [List.getElem?_toArray]; rfl
      case el0_34 => exact fun _ _ _ h => h
      case dl0_34 => exact Or.inr ⟨by rfl, rfl⟩
      simp only [Act.put, List.setIfInBounds_toArray, List.set_cons_zero, List.set_cons_succ]
      refine wpAnyH_take (i := 35) (oi := ?al0_35) (v := undef) ?cl0_35 (by kernel_rfl) (by kernel_rfl) (by kernel_rfl) ?el0_35 ?dl0_35 hH0 ?_
      case cl0_35 => simp only [List.getElem?_toArray]; rfl
      case el0_35 => exact fun _ _ _ h => h
      case dl0_35 => exact Or.inr ⟨by rfl, rfl⟩
      simp only [Act.put, List.setIfInBounds_toArray, List.set_cons_zero, List.set_cons_succ]
      refine wpAnyH_take (i := 36) (oi := ?al0_36) (v := undef) ?cl0_36 (by kernel_rfl) (by kernel_rfl) (by kernel_rfl) ?el0_36 ?dl0_36 hH0 ?_
      case cl0_36 => simp only [List.getElem?_toArray]; rfl
      case el0_36 => exact fun _ _ _ h => h
      case dl0_36 => exact Or.inr ⟨by rfl, rfl⟩
      simp only [Act.put, List.setIfInBounds_toArray, List.set_cons_zero, List.set_cons_succ]
      refine wpAnyH_take (i := 37) (oi := ?al0_37) (v := undef) ?cl0_37 (by kernel_rfl) (by kernel_rfl) (by kernel_rfl) ?el0_37 ?dl0_37 hH0 ?_
      case cl0_37 => simp only [List.getElem?_toArray]; rfl
      case el0_37 => exact fun _ _ _ h => h
      case dl0_37 => exact Or.inr ⟨by rfl, rfl⟩
      simp only [Act.put, List.setIfInBounds_toArray, List.set_cons_zero, List.set_cons_succ]
      refine wpAnyH_take (i := 38) (oi := ?al0_38) (v := undef) ?cl0_38 (by kernel_rfl) (by kernel_rfl) (by kernel_rfl) ?el0_38 ?dl0_38 hH0 ?_
      case cl0_38 => simp only [List.getElem?_toArray]; rfl
      case el0_38 => exact fun _ _ _ h => h
      case dl0_38 => exact Or.inr ⟨by rfl, rfl⟩
      simp only [Act.put, List.setIfInBounds_toArray, List.set_cons_zero, List.set_cons_succ]
      refine wpAnyH_take (i := 39) (oi := ?al0_39) (v := ?bl0_39) ?cl0_39 (by kernel_rfl) (by kernel_rfl) (by kernel_rfl) ?el0_39 ?dl0_39 hH0 ?_
      case cl0_39 => simp only [List.getElem?_toArray]; rfl
      case el0_39 => exact fun _ _ _ h => h
      case dl0_39 => refine Or.inl ⟨by rfl, ?_⟩; intro W hSw; (try dsimp only at hSw); go_simp; try with_reducible rfl
      simp only [Act.put, List.setIfInBounds_toArray, List.set_cons_zero, List.set_cons_succ]
      refine wpAnyH_take (i := 40) (oi := ?al0_40) (v := ?bl0_40) ?cl0_40 (by kernel_rfl) (by kernel_rfl) (by kernel_rfl) ?el0_40 ?dl0_40 hH0 ?_
      case cl0_40 => simp only [List.getElem?_toArray]; rfl
      case el0_40 => exact fun _ _ _ h => h
      case dl0_40 => refine Or.inl ⟨by rfl, ?_⟩; intro W hSw; (try dsimp only at hSw); go_simp; try with_reducible rfl
      simp only [Act.put, List.setIfInBounds_toArray, List.set_cons_zero, List.set_cons_succ]
      refine wpAnyH_take (i := 41) (oi := ?al0_41) (v := undef) ?cl0_41 (by kernel_rfl) (by kernel_rfl) (by kernel_rfl) ?el0_41 ?dl0_41 hH0 ?_
      case cl0_41 => simp only [List.getElem?_toArray]; rfl
      case el0_41 => exact fun _ _ _ h => h
      case dl0_41 => exact Or.inr ⟨by rfl, rfl⟩
      simp only [Act.put, List.setIfInBounds_toArray, List.set_cons_zero, List.set_cons_succ]
      refine wpAnyH_take (i := 42) (oi := ?al0_42) (v := undef) ?cl0_42 (by kernel_rfl) (by kernel_rfl) (by kernel_rfl) ?el0_42 ?dl0_42 hH0 ?_
      case cl0_42 => simp only [List.getElem?_toArray]; rfl
      case el0_42 => exact fun _ _ _ h => h
      case dl0_42 => exact Or.inr ⟨by rfl, rfl⟩
      simp only [Act.put, List.setIfInBounds_toArray, List.set_cons_zero, List.set_cons_succ]
      refine wpAnyH_take (i := 43) (oi := ?al0_43) (v := undef) ?cl0_43 (by kernel_rfl) (by kernel_rfl) (by kernel_rfl) ?el0_43 ?dl0_43 hH0 ?_
      case cl0_43 => simp only [List.getElem?_toArray]; rfl
      case el0_43 => exact fun _ _ _ h => h
      case dl0_43 => exact Or.inr ⟨by rfl, rfl⟩
      simp only [Act.put, List.setIfInBounds_toArray, List.set_cons_zero, List.set_cons_succ]
      refine wpAnyH_take (i := 44) (oi := ?al0_44) (v := undef) ?cl0_44 (by kernel_rfl) (by kernel_rfl) (by kernel_rfl) ?el0_44 ?dl0_44 hH0 ?_
      case cl0_44 => simp only [List.getElem?_toArray]; rfl
      case el0_44 => exact fun _ _ _ h => h
      case dl0_44 => exact Or.inr ⟨by rfl, rfl⟩
      simp only [Act.put, List.setIfInBounds_toArray, List.set_cons_zero, List.set_cons_succ]
      refine wpAnyH_take (i := 45) (oi := ?al0_45) (v := undef) ?cl0_45 (by kernel_rfl) (by kernel_rfl) (by kernel_rfl) ?el0_45 ?dl0_45 hH0 ?_
      case cl0_45 => simp only [List.getElem?_toArray]; rfl
      case el0_45 => exact fun _ _ _ h => h
      case dl0_45 => exact Or.inr ⟨by rfl, rfl⟩
      simp only [Act.put, List.setIfInBounds_toArray, List.set_cons_zero, List.set_cons_succ]
      refine wpAnyH_take (i := 46) (oi := ?al0_46) (v := undef) ?cl0_46 (by kernel_rfl) (by kernel_rfl) (by kernel_rfl) ?el0_46 ?dl0_46 hH0 ?_
      case cl0_46 => simp only [List.getElem?_toArray]; rfl
      case el0_46 => exact fun _ _ _ h => h
      case dl0_46 => exact Or.inr ⟨by rfl, rfl⟩
      simp only [Act.put, List.setIfInBounds_toArray, List.set_cons_zero, List.set_cons_succ]
      refine wpAnyH_take (i := 47) (oi := ?al0_47) (v := ?bl0_47) ?cl0_47 (by kernel_rfl) (by kernel_rfl) (by kernel_rfl) ?el0_47 ?dl0_47 hH0 ?_
      case cl0_47 => simp only [List.getElem?_toArray]; rfl
      case el0_47 => exact fun _ _ _ h => h
      case dl0_47 => refine Or.inl ⟨by rfl, ?_⟩; intro W hSw; (try dsimp only at hSw); go_simp; try with_reducible rfl
      simp only [Act.put, List.setIfInBounds_toArray, List.set_cons_zero, List.set_cons_succ]
      refine wpAnyH_take (i := 48) (oi := ?al0_48) (v := ?bl0_48) ?cl0_48 (by kernel_rfl) (by kernel_rfl) (by kernel_rfl) ?el0_48 ?dl0_48 hH0 ?_
      case cl0_48 => simp only [List.getElem?_toArray]; rfl
      case el0_48 => exact fun _ _ _ h => h
      case dl0_48 => refine Or.inl ⟨by rfl, ?_⟩; intro W hSw; (try dsimp only at hSw); go_simp; try with_reducible rfl
      simp only [Act.put, List.setIfInBounds_toArray, List.set_cons_zero, List.set_cons_succ]
      refine wpAnyH_take (i := 49) (oi := ?al0_49) (v := undef) ?cl0_49 (by kernel_rfl) (by kernel_rfl) (by kernel_rfl) ?el0_49 ?dl0_49 hH0 ?_
      case cl0_49 => simp only [List.getElem?_toArray]; rfl
      case el0_49 => exact fun _ _ _ h => h
      case dl0_49 => exact Or.inr ⟨by rfl, rfl⟩
      simp only [Act.put, List.setIfInBounds_toArray, List.set_cons_zero, List.set_cons_succ]
      refine wpAnyH_take (i := 50) (oi := ?al0_50) (v := undef) ?cl0_50 (by kernel_rfl) (by kernel_rfl) (by kernel_rfl) ?el0_50 ?dl0_50 hH0 ?_
      case cl0_50 => simp only [List.getElem?_toArray]; rfl
      case el0_50 => exact fun _ _ _ h => h
      case dl0_50 => exact Or.inr ⟨by rfl, rfl⟩
      simp only [Act.put, List.setIfInBounds_toArray, List.set_cons_zero, List.set_cons_succ]
      refine wpAnyH_take (i := 51) (oi := ?al0_51) (v := undef) ?cl0_51 (by kernel_rfl) (by kernel_rfl) (by kernel_rfl) ?el0_51 ?dl0_51 hH0 ?_
      case cl0_51 => simp only [List.getElem?_toArray]; rfl
      case el0_51 => exact fun _ _ _ h => h
      case dl0_51 => exact Or.inr ⟨by rfl, rfl⟩
      simp only [Act.put, List.setIfInBounds_toArray, List.set_cons_zero, List.set_cons_succ]
      refine wpAnyH_take (i := 52) (oi := ?al0_52) (v := undef) ?cl0_52 (by kernel_rfl) (by kernel_rfl) (by kernel_rfl) ?el0_52 ?dl0_52 hH0 ?_
      case cl0_52 => simp only [List.getElem?_toArray]; rfl
      case el0_52 => exact fun _ _ _ h => h
      case dl0_52 => exact Or.inr ⟨by rfl, rfl⟩
      simp only [Act.put, List.setIfInBounds_toArray, List.set_cons_zero, List.set_cons_succ]
      refine wpAnyH_take (i := 53) (oi := ?al0_53) (v := undef) ?cl0_53 (by kernel_rfl) (by kernel_rfl) (by kernel_rfl) ?el0_53 ?dl0_53 hH0 ?_
      case cl0_53 => simp only [List.getElem?_toArray]; rfl
      case el0_53 => exact fun _ _ _ h => h
      case dl0_53 => exact Or.inr ⟨by rfl, rfl⟩
      simp only [Act.put, List.setIfInBounds_toArray, List.set_cons_zero, List.set_cons_succ]
      refine wpAnyH_take (i := 54) (oi := ?al0_54) (v := undef) ?cl0_54 (by kernel_rfl) (by kernel_rfl) (by kernel_rfl) ?el0_54 ?dl0_54 hH0 ?_
      case cl0_54 => simp only [List.getElem?_toArray]; rfl
      case el0_54 => exact fun _ _ _ h => h
      case dl0_54 => exact Or.inr ⟨by rfl, rfl⟩
      simp only [Act.put, List.setIfInBounds_toArray, List.set_cons_zero, List.set_cons_succ]
      refine wpAnyH_take (i := 55) (oi := ?al0_55) (v := undef) ?cl0_55 (by kernel_rfl) (by kernel_rfl) (by kernel_rfl) ?el0_55 ?dl0_55 hH0 ?_
      case cl0_55 => simp only [List.getElem?_toArray]; rfl
      case el0_55 => exact fun _ _ _ h => h
      case dl0_55 => exact Or.inr ⟨by rfl, rfl⟩
      simp only [Act.put, List.setIfInBounds_toArray, List.set_cons_zero, List.set_cons_succ]
      refine wpAnyH_take (i := 56) (oi := ?al0_56) (v := undef) ?cl0_56 (by kernel_rfl) (by kernel_rfl) (by kernel_rfl) ?el0_56 ?dl0_56 hH0 ?_
      case cl0_56 => simp only [List.getElem?_toArray]; rfl
      case el0_56 => exact fun _ _ _ h => h
      case dl0_56 => exact Or.inr ⟨by rfl, rfl⟩
      simp only [Act.put, List.setIfInBounds_toArray, List.set_cons_zero, List.set_cons_succ]
      refine wpAnyH_take (i := 57) (oi := ?al0_57) (v := undef) ?cl0_57 (by kernel_rfl) (by kernel_rfl) (by kernel_rfl) ?el0_57 ?dl0_57 hH0 ?_
      case cl0_57 => simp only [List.getElem?_toArray]; rfl
      case el0_57 => exact fun _ _ _ h => h
      case dl0_57 => exact Or.inr ⟨by rfl, rfl⟩
      simp only [Act.put, List.setIfInBounds_toArray, List.set_cons_zero, List.set_cons_succ]
      refine wpAnyH_take (i := 58) (oi := ?al0_58) (v := undef) ?cl0_58 (by kernel_rfl) (by kernel_rfl) (by kernel_rfl) ?el0_58 ?dl0_58 hH0 ?_
      case cl0_58 => simp only [List.getElem?_toArray]; rfl
      case el0_58 => exact fun _ _ _ h => h
      case dl0_58 => exact Or.inr ⟨by rfl, rfl⟩
      simp only [Act.put, List.setIfInBounds_toArray, List.set_cons_zero, List.set_cons_succ]
      refine wpAnyH_take (i := 59) (oi := ?al0_59) (v := undef) ?cl0_59 (by kernel_rfl) (by kernel_rfl) (by kernel_rfl) ?el0_59 ?dl0_59 hH0 ?_
      case cl0_59 => simp only [List.getElem?_toArray]; rfl
      case el0_59 => exact fun _ _ _ h => h
      case dl0_59 => exact Or.inr ⟨by rfl, rfl⟩
      simp only [Act.put, List.setIfInBounds_toArray, List.set_cons_zero, List.set_cons_succ]
      refine wpAnyH_take (i := 60) (oi := ?al0_60) (v := undef) ?cl0_60 (by kernel_rfl) (by kernel_rfl) (by kernel_rfl) ?el0_60 ?dl0_60 hH0 ?_
      case cl0_60 => simp only [List.getElem?_toArray]; rfl
      case el0_60 => exact fun _ _ _ h => h
      case dl0_60 => exact Or.inr ⟨by rfl, rfl⟩
      simp only [Act.put, List.setIfInBounds_toArray, List.set_cons_zero, List.set_cons_succ]
      refine wpAnyH_take (i := 61) (oi := ?al0_61) (v := undef) ?cl0_61 (by kernel_rfl) (by kernel_rfl) (by kernel_rfl) ?el0_61 ?dl0_61 hH0 ?_
      case cl0_61 => simp only [List.getElem?_toArray]; rfl
      case el0_61 => exact fun _ _ _ h => h
      case dl0_61 => exact Or.inr ⟨by rfl, rfl⟩
      simp only [Act.put, List.setIfInBounds_toArray, List.set_cons_zero, List.set_cons_succ]
      refine wpAnyH_take (i := 62) (oi := ?al0_62) (v := undef) ?cl0_62 (by kernel_rfl) (by kernel_rfl) (by kernel_rfl) ?el0_62 ?dl0_62 hH0 ?_
      case cl0_62 => simp only [List.getElem?_toArray]; rfl
      case el0_62 => exact fun _ _ _ h => h
      case dl0_62 => exact Or.inr ⟨by rfl, rfl⟩
      simp only [Act.put, List.setIfInBounds_toArray, List.set_cons_zero, List.set_cons_succ]
      refine wpAnyH_take (i := 63) (oi := ?al0_63) (v := undef) ?cl0_63 (by kernel_rfl) (by kernel_rfl) (by kernel_rfl) ?el0_63 ?dl0_63 hH0 ?_
      case cl0_63 => simp only [List.getElem?_toArray]; rfl
      case el0_63 => exact fun _ _ _ h => h
      case dl0_63 => exact Or.inr ⟨by rfl, rfl⟩
      simp only [Act.put, List.setIfInBounds_toArray, List.set_cons_zero, List.set_cons_succ]
      refine wpAnyH_take (i := 64) (oi := ?al0_64) (v := undef) ?cl0_64 (by kernel_rfl) (by kernel_rfl) (by kernel_rfl) ?el0_64 ?dl0_64 hH0 ?_
      case cl0_64 => simp only [List.getElem?_toArray]; rfl
      case el0_64 => exact fun _ _ _ h => h
      case dl0_64 => exact Or.inr ⟨by rfl, rfl⟩
      simp only [Act.put, List.setIfInBounds_toArray, List.set_cons_zero, List.set_cons_succ]
      refine wpAnyH_take (i := 65) (oi := ?al0_65) (v := ?bl0_65) ?cl0_65 (by kernel_rfl) (by kernel_rfl) (by kernel_rfl) ?el0_65 ?dl0_65 hH0 ?_
      case cl0_65 => simp only [List.getElem?_toArray]; rfl
      case el0_65 => exact fun _ _ _ h => h
      case dl0_65 => refine Or.inl ⟨by rfl, ?_⟩; intro W hSw; (try dsimp only at hSw); go_simp; try with_reducible rfl
      simp only [Act.put, List.setIfInBounds_toArray, List.set_cons_zero, List.set_cons_succ]
      refine wpAnyH_done (by kernel_rfl) ?_ _
      go_wp2
      all_goals go_meet
      all_goals
       case rel => exact .inl ⟨rfl, by omega, rfl⟩
     ·have D0 : decide (ci < 1) = false := decide_eq_false d0
      by_cases d1 : 100 < ci
      ·have D1 : decide (100 < ci) = true := decide_eq_true d1
       refine region_begin (S := fun X' => X'.cell? ⟨w.heap.size, 0, none⟩ = some (.int .i64 V.epoch) ∧ X'.cell? ⟨w.heap.size, 1, none⟩ = some (.slice (some ⟨b1, o1, none⟩) V.chain.length k1) ∧ X'.cell? ⟨w.heap.size, 2, none⟩ = some (.slice (some ⟨b2, o2, none⟩) V.since.length k2) ∧ X'.cell? ⟨w.heap.size, 3, none⟩ = some (.slice (some ⟨b3, o3, none⟩) V.boot.length k3) ∧ X'.cell? ⟨b1, o1 + k, none⟩ = some (.int .i64 ci) ∧ X'.cell? ⟨b2, o2 + k, none⟩ = some (.int .i64 si) ∧ X'.cell? ⟨b3, o3 + k, none⟩ = some (.int .i64 bi)) 66 rfl (by kernel_rfl) ⟨y0, y1, y2, y3, hc1, hc2, hc3⟩ (fun hH0 => ?_)
       refine wpAnyH_take (i := 0) (oi := ?al1_0) (v := ?bl1_0) ?cl1_0 (by kernel_rfl) (by kernel_rfl) (by kernel_rfl) ?el1_0 ?dl1_0 hH0 ?_
       case cl1_0 => simp only [List.getElem?_toArray]; rfl
       case el1_0 => exact fun _ _ _ h => h
       case dl1_0 => refine Or.inl ⟨by rfl, ?_⟩; intro W hSw; (try dsimp only at hSw); go_simp; try with_reducible rfl
       simp only [Act.put, List.setIfInBounds_toArray, List.set_cons_zero, List.set_cons_succ]
       refine wpAnyH_take (i := 1) (oi := ?al1_1) (v := ?bl1_1) ?cl1_1 (by kernel_rfl) (by kernel_rfl) (by kernel_rfl) ?el1_1 ?dl1_1 hH0 ?_
       case cl1_1 => simp only [List.getElem?_toArray]; rfl
       case el1_1 => exact fun _ _ _ h => h
       case dl1_1 => refine Or.inl ⟨by rfl, ?_⟩; intro W hSw; (try dsimp only at hSw); go_simp; try with_reducible rfl
       simp only [Act.put, List.setIfInBounds_toArray, List.set_cons_zero, List.set_cons_succ]
       refine wpAnyH_take (i := 2) (oi := ?al1_2) (v := ?bl1_2) ?cl1_2 (by kernel_rfl) (by kernel_rfl) (by kernel_rfl) ?el1_2 ?dl1_2 hH0 ?_
       case cl1_2 => simp only [List.getElem?_toArray]; rfl
       case el1_2 => exact fun _ _ _ h => h
       case dl1_2 => refine Or.inl ⟨by rfl, ?_⟩; intro W hSw; (try dsimp only at hSw); go_simp; try with_reducible rfl
       simp only [Act.put, List.setIfInBounds_toArray, List.set_cons_zero, List.set_cons_succ]
       refine wpAnyH_take (i := 3) (oi := ?al1_3) (v := ?bl1_3) ?cl1_3 (by kernel_rfl) (by kernel_rfl) (by kernel_rfl) ?el1_3 ?dl1_3 hH0 ?_
       case cl1_3 => simp only [List.getElem?_toArray]; rfl
       case el1_3 => exact fun _ _ _ h => h
       case dl1_3 => refine Or.inl ⟨by rfl, ?_⟩; intro W hSw; (try dsimp only at hSw); go_simp; try with_reducible rfl
       simp only [Act.put, List.setIfInBounds_toArray, List.set_cons_zero, List.set_cons_succ]
       refine wpAnyH_take (i := 4) (oi := ?al1_4) (v := ?bl1_4) ?cl1_4 (by kernel_rfl) (by kernel_rfl) (by kernel_rfl) ?el1_4 ?dl1_4 hH0 ?_
       case cl1_4 => simp only [List.getElem?_toArray]; rfl
       case el1_4 => exact fun _ _ _ h => h
       case dl1_4 => refine Or.inl ⟨by rfl, ?_⟩; intro W hSw; (try dsimp only at hSw); go_simp; try with_reducible rfl
       simp only [Act.put, List.setIfInBounds_toArray, List.set_cons_zero, List.set_cons_succ]
       refine wpAnyH_take (i := 5) (oi := ?al1_5) (v := ?bl1_5) ?cl1_5 (by kernel_rfl) (by kernel_rfl) (by kernel_rfl) ?el1_5 ?dl1_5 hH0 ?_
       case cl1_5 => simp only [List.getElem?_toArray]; rfl
       case el1_5 => exact fun _ _ _ h => h
       case dl1_5 => refine Or.inl ⟨by rfl, ?_⟩; intro W hSw; (try dsimp only at hSw); go_simp; try with_reducible rfl
       simp only [Act.put, List.setIfInBounds_toArray, List.set_cons_zero, List.set_cons_succ]
       refine wpAnyH_take (i := 6) (oi := ?al1_6) (v := ?bl1_6) ?cl1_6 (by kernel_rfl) (by kernel_rfl) (by kernel_rfl) ?el1_6 ?dl1_6 hH0 ?_
       case cl1_6 => simp only [List.getElem?_toArray]; rfl
       case el1_6 => exact fun _ _ _ h => h
       case dl1_6 => refine Or.inl ⟨by rfl, ?_⟩; intro W hSw; (try dsimp only at hSw); go_simp; try with_reducible rfl
       simp only [Act.put, List.setIfInBounds_toArray, List.set_cons_zero, List.set_cons_succ]
       refine wpAnyH_take (i := 7) (oi := ?al1_7) (v := ?bl1_7) ?cl1_7 (by kernel_rfl) (by kernel_rfl) (by kernel_rfl) ?el1_7 ?dl1_7 hH0 ?_
       case cl1_7 => simp only [List.getElem?_toArray]; rfl
       case el1_7 => exact fun _ _ _ h => h
       case dl1_7 => refine Or.inl ⟨by rfl, ?_⟩; intro W hSw; (try dsimp only at hSw); go_simp; try with_reducible rfl
       simp only [Act.put, List.setIfInBounds_toArray, List.set_cons_zero, List.set_cons_succ]
       refine wpAnyH_take (i := 8) (oi := ?al1_8) (v := ?bl1_8) ?cl1_8 (by kernel_rfl) (by kernel_rfl) (by kernel_rfl) ?el1_8 ?dl1_8 hH0 ?_
       case cl1_8 => simp only [List.getElem?_toArray]; rfl
       case el1_8 => exact fun _ _ _ h => h
       case dl1_8 => refine Or.inl ⟨by rfl, ?_⟩; intro W hSw; (try dsimp only at hSw); go_simp; try with_reducible rfl
       simp only [Act.put, List.setIfInBounds_toArray, List.set_cons_zero, List.set_cons_succ]
       refine wpAnyH_take (i := 9) (oi := ?al1_9) (v := ?bl1_9) ?cl1_9 (by kernel_rfl) (by kernel_rfl) (by kernel_rfl) ?el1_9 ?dl1_9 hH0 ?_
       case cl1_9 => simp only [List.getElem?_toArray]; rfl
       case el1_9 => exact fun _ _ _ h => h
       case dl1_9 => refine Or.inl ⟨by rfl, ?_⟩; intro W hSw; (try dsimp only at hSw); go_simp; try with_reducible rfl
       simp only [Act.put, List.setIfInBounds_toArray, List.set_cons_zero, List.set_cons_succ]
       refine wpAnyH_take (i := 10) (oi := ?al1_10) (v := ?bl1_10) ?cl1_10 (by kernel_rfl) (by kernel_rfl) (by kernel_rfl) ?el1_10 ?dl1_10 hH0 ?_
       case cl1_10 => simp only [List.getElem?_toArray]; rfl
       case el1_10 => exact fun _ _ _ h => h
       case dl1_10 => refine Or.inl ⟨by rfl, ?_⟩; intro W hSw; (try dsimp only at hSw); go_simp; try with_reducible rfl
       simp only [Act.put, List.setIfInBounds_toArray, List.set_cons_zero, List.set_cons_succ]
       refine wpAnyH_take (i := 11) (oi := ?al1_11) (v := ?bl1_11) ?cl1_11 (by kernel_rfl) (by kernel_rfl) (by kernel_rfl) ?el1_11 ?dl1_11 hH0 ?_
       case cl1_11 => simp only [List.getElem?_toArray]; rfl
       case el1_11 => exact fun _ _ _ h => h
       case dl1_11 => refine Or.inl ⟨by rfl, ?_⟩; intro W hSw; (try dsimp only at hSw); go_simp; try with_reducible rfl
       simp only [Act.put, List.setIfInBounds_toArray, List.set_cons_zero, List.set_cons_succ]
       refine wpAnyH_take (i := 12) (oi := ?al1_12) (v := ?bl1_12) ?cl1_12 (by kernel_rfl) (by kernel_rfl) (by kernel_rfl) ?el1_12 ?dl1_12 hH0 ?_
       case cl1_12 => simp only [List.getElem?_toArray]; rfl
       case el1_12 => exact fun _ _ _ h => h
       case dl1_12 => refine Or.inl ⟨by rfl, ?_⟩; intro W hSw; (try dsimp only at hSw); go_simp; try with_reducible rfl
       simp only [Act.put, List.setIfInBounds_toArray, List.set_cons_zero, List.set_cons_succ]
       refine wpAnyH_take (i := 13) (oi := ?al1_13) (v := ?bl1_13) ?cl1_13 (by kernel_rfl) (by kernel_rfl) (by kernel_rfl) ?el1_13 ?dl1_13 hH0 ?_
       case cl1_13 => simp only [List.getElem?_toArray]; rfl
       case el1_13 => exact fun _ _ _ h => h
       case dl1_13 => refine Or.inl ⟨by rfl, ?_⟩; intro W hSw; (try dsimp only at hSw); go_simp; try with_reducible rfl
       simp only [Act.put, List.setIfInBounds_toArray, List.set_cons_zero, List.set_cons_succ]
       refine wpAnyH_take (i := 14) (oi := ?al1_14) (v := ?bl1_14) ?cl1_14 (by kernel_rfl) (by kernel_rfl) (by kernel_rfl) ?el1_14 ?dl1_14 hH0 ?_
       case cl1_14 => simp only [List.getElem?_toArray]; rfl
       case el1_14 => exact fun _ _ _ h => h
       case dl1_14 => refine Or.inl ⟨by rfl, ?_⟩; intro W hSw; (try dsimp only at hSw); go_simp; try with_reducible rfl
       simp only [Act.put, List.setIfInBounds_toArray, List.set_cons_zero, List.set_cons_succ]
       refine wpAnyH_take (i := 15) (oi := ?al1_15) (v := undef) ?cl1_15 (by kernel_rfl) (by kernel_rfl) (by kernel_rfl) ?el1_15 ?dl1_15 hH0 ?_
       case cl1_15 => simp only [List.getElem?_toArray]; rfl
       case el1_15 => exact fun _ _ _ h => h
       case dl1_15 => exact Or.inr ⟨by rfl, rfl⟩
       simp only [Act.put, List.setIfInBounds_toArray, List.set_cons_zero, List.set_cons_succ]
       refine wpAnyH_take (i := 16) (oi := ?al1_16) (v := undef) ?cl1_16 (by kernel_rfl) (by kernel_rfl) (by kernel_rfl) ?el1_16 ?dl1_16 hH0 ?_
       case cl1_16 => simp only [List.getElem?_toArray]; rfl
       case el1_16 => exact fun _ _ _ h => h
       case dl1_16 => exact Or.inr ⟨by rfl, rfl⟩
       simp only [Act.put, List.setIfInBounds_toArray, List.set_cons_zero, List.set_cons_succ]
       refine wpAnyH_take (i := 17) (oi := ?al1_17) (v := undef) ?cl1_17 (by kernel_rfl) (by kernel_rfl) (by kernel_rfl) ?el1_17 ?dl1_17 hH0 ?_
       case cl1_17 => simp only [List.getElem?_toArray]; rfl
       case el1_17 => exact fun _ _ _ h => h
       case dl1_17 => exact Or.inr ⟨by rfl, rfl⟩
       simp only [Act.put, List.setIfInBounds_toArray, List.set_cons_zero, List.set_cons_succ]
       refine wpAnyH_take (i := 18) (oi := ?al1_18) (v := undef) ?cl1_18 (by kernel_rfl) (by kernel_rfl) (by kernel_rfl) ?el1_18 ?dl1_18 hH0 ?_
       case cl1_18 => simp only [List.getElem?_toArray]; rfl
       case el1_18 => exact fun _ _ _ h => h
       case dl1_18 => exact Or.inr ⟨by rfl, rfl⟩
       simp only [Act.put, List.setIfInBounds_toArray, List.set_cons_zero, List.set_cons_succ]
       refine wpAnyH_take (i := 19) (oi := ?al1_19) (v := undef) ?cl1_19 (by kernel_rfl) (by kernel_rfl) (by kernel_rfl) ?el1_19 ?dl1_19 hH0 ?_
       case cl1_19 => simp only [List.getElem?_toArray]; rfl
       case el1_19 => exact fun _ _ _ h => h
       case dl1_19 => exact Or.inr ⟨by rfl, rfl⟩
       simp only [Act.put, List.setIfInBounds_toArray, List.set_cons_zero, List.set_cons_succ]
       refine wpAnyH_take (i := 20) (oi := ?al1_20) (v := undef) ?cl1_20 (by kernel_rfl) (by kernel_rfl) (by kernel_rfl) ?el1_20 ?dl1_20 hH0 ?_
       case cl1_20 => simp only [List.getElem?_toArray]; rfl
       case el1_20 => exact fun _ _ _ h => h
       case dl1_20 => exact Or.inr ⟨by rfl, rfl⟩
       simp only [Act.put, List.setIfInBounds_toArray, List.set_cons_zero, List.set_cons_succ]
       refine wpAnyH_take (i := 21) (oi := ?al1_21) (v := ?bl1_21) ?cl1_21 (by kernel_rfl) (by kernel_rfl) (by kernel_rfl) ?el1_21 ?dl1_21 hH0 ?_
       case cl1_21 => simp only [List.getElem?_toArray]; rfl
       case el1_21 => exact fun _ _ _ h => h
       case dl1_21 => refine Or.inl ⟨by rfl, ?_⟩; intro W hSw; (try dsimp only at hSw); go_simp; try with_reducible rfl
       simp only [Act.put, List.setIfInBounds_toArray, List.set_cons_zero, List.set_cons_succ]
       refine wpAnyH_take (i := 22) (oi := ?al1_22) (v := ?bl1_22) ?cl1_22 (by kernel_rfl) (by kernel_rfl) (by kernel_rfl) ?el1_22 ?dl1_22 hH0 ?_
       case cl1_22 => simp only [List.getElem?_toArray]; rfl
       case el1_22 => exact fun _ _ _ h => h
       case dl1_22 => refine Or.inl ⟨by rfl, ?_⟩; intro W hSw; (try dsimp only at hSw); go_simp; try with_reducible rfl
       simp only [Act.put, List.setIfInBounds_toArray, List.set_cons_zero, List.set_cons_succ]
       refine wpAnyH_take (i := 23) (oi := ?al1_23) (v := undef) ?cl1_23 (by kernel_rfl) (by kernel_rfl) (by kernel_rfl) ?el1_23 ?dl1_23 hH0 ?_
       case cl1_23 => simp only [List.getElem?_toArray]; rfl
       case el1_23 => exact fun _ _ _ h => h
       case dl1_23 => exact Or.inr ⟨by rfl, rfl⟩
       simp only [Act.put, List.setIfInBounds_toArray, List.set_cons_zero, List.set_cons_succ]
       refine wpAnyH_take (i := 24) (oi := ?al1_24) (v := undef) ?cl1_24 (by kernel_rfl) (by kernel_rfl) (by kernel_rfl) ?el1_24 ?dl1_24 hH0 ?_
       case cl1_24 => simp only [List.getElem?_toArray]; rfl
       case el1_24 => exact fun _ _ _ h => h
       case dl1_24 => exact Or.inr ⟨by rfl, rfl⟩
       simp only [Act.put, List.setIfInBounds_toArray, List.set_cons_zero, List.set_cons_succ]
       refine wpAnyH_take (i := 25) (oi := ?al1_25) (v := undef) ?cl1_25 (by kernel_rfl) (by kernel_rfl) (by kernel_rfl) ?el1_25 ?dl1_25 hH0 ?_
       case cl1_25 => simp only [List.getElem?_toArray]; rfl
       case el1_25 => exact fun _ _ _ h => h
       case dl1_25 => exact Or.inr ⟨by rfl, rfl⟩
       simp only [Act.put, List.setIfInBounds_toArray, List.set_cons_zero, List.set_cons_succ]
       refine wpAnyH_take (i := 26) (oi := ?al1_26) (v := undef) ?cl1_26 (by kernel_rfl) (by kernel_rfl) (by kernel_rfl) ?el1_26 ?dl1_26 hH0 ?_
       case cl1_26 => simp only [List.getElem?_toArray]; rfl
       case el1_26 => exact fun _ _ _ h => h
       case dl1_26 => exact Or.inr ⟨by rfl, rfl⟩
       simp only [Act.put, List.setIfInBounds_toArray, List.set_cons_zero, List.set_cons_succ]
       refine wpAnyH_take (i := 27) (oi := ?al1_27) (v := undef) ?cl1_27 (by kernel_rfl) (by kernel_rfl) (by kernel_rfl) ?el1_27 ?dl1_27 hH0 ?_
       case cl1_27 => simp only [List.getElem?_toArray]; rfl
       case el1_27 => exact fun _ _ _ h => h
       case dl1_27 => exact Or.inr ⟨by rfl, rfl⟩
       simp only [Act.put, List.setIfInBounds_toArray, List.set_cons_zero, List.set_cons_succ]
       refine wpAnyH_take (i := 28) (oi := ?al1_28) (v := undef) ?cl1_28 (by kernel_rfl) (by kernel_rfl) (by kernel_rfl) ?el1_28 ?dl1_28 hH0 ?_
       case cl1_28 => simp only [List.getElem?_toArray]; rfl
       case el1_28 => exact fun _ _ _ h => h
       case dl1_28 => exact Or.inr ⟨by rfl, rfl⟩
       simp only [Act.put, List.setIfInBounds_toArray, List.set_cons_zero, List.set_cons_succ]
       refine wpAnyH_take (i := 29) (oi := ?al1_29) (v := undef) ?cl1_29 (by kernel_rfl) (by kernel_rfl) (by kernel_rfl) ?el1_29 ?dl1_29 hH0 ?_
       case cl1_29 => simp only [List.getElem?_toArray]; rfl
       case el1_29 => exact fun _ _ _ h => h
       case dl1_29 => exact Or.inr ⟨by rfl, rfl⟩
       simp only [Act.put, List.setIfInBounds_toArray, List.set_cons_zero, List.set_cons_succ]
       refine wpAnyH_take (i := 30) (oi := ?al1_30) (v := undef) ?cl1_30 (by kernel_rfl) (by kernel_rfl) (by kernel_rfl) ?el1_30 ?dl1_30 hH0 ?_
       case cl1_30 => simp only [List.getElem?_toArray]; rfl
       case el1_30 => exact fun _ _ _ h => h
       case dl1_30 => exact Or.inr ⟨by rfl, rfl⟩
       simp only [Act.put, List.setIfInBounds_toArray, List.set_cons_zero, List.set_cons_succ]
       refine wpAnyH_take (i := 31) (oi := ?al1_31) (v := ?bl1_31) ?cl1_31 (by kernel_rfl) (by kernel_rfl) (by kernel_rfl) ?el1_31 ?dl1_31 hH0 ?_
       case cl1_31 => simp only [List.getElem?_toArray]; rfl
       case el1_31 => exact fun _ _ _ h => h
       case dl1_31 => refine Or.inl ⟨by rfl, ?_⟩; intro W hSw; (try dsimp only at hSw); go_simp; try with_reducible rfl
       simp only [Act.put, List.setIfInBounds_toArray, List.set_cons_zero, List.set_cons_succ]
       refine wpAnyH_take (i := 32) (oi := ?al1_32) (v := ?bl1_32) ?cl1_32 (by kernel_rfl) (by kernel_rfl) (by kernel_rfl) ?el1_32 ?dl1_32 hH0 ?_
       case cl1_32 => simp only [List.getElem?_toArray]; rfl
       case el1_32 => exact fun _ _ _ h => h
       case dl1_32 => refine Or.inl ⟨by rfl, ?_⟩; intro W hSw; (try dsimp only at hSw); go_simp; try with_reducible rfl
       simp only [Act.put, List.setIfInBounds_toArray, List.set_cons_zero, List.set_cons_succ]
       refine wpAnyH_take (i := 33) (oi := ?al1_33) (v := undef) ?cl1_33 (by kernel_rfl) (by kernel_rfl) (by kernel_rfl) ?el1_33 ?dl1_33 hH0 ?_
       case cl1_33 => simp only [List.getElem?_toArray]; rfl
       case el1_33 => exact fun _ _ _ h => h
       case dl1_33 => exact Or.inr ⟨by rfl, rfl⟩
       simp only [Act.put, List.setIfInBounds_toArray, List.set_cons_zero, List.set_cons_succ]
       refine wpAnyH_take (i := 34) (oi := ?al1_34) (v := undef) ?cl1_34 (by kernel_rfl) (by kernel_rfl) (by kernel_rfl) ?el1_34 ?dl1_34 hH0 ?_
       case cl1_34 => simp only [List.getElem?_toArray]; rfl
       case el1_34 => exact fun _ _ _ h => h
       case dl1_34 => exact Or.inr ⟨by rfl, rfl⟩
       simp only [Act.put, List.setIfInBounds_toArray, List.set_cons_zero, List.set_cons_succ]
       refine wpAnyH_take (i := 35) (oi := ?al1_35) (v := undef) ?cl1_35 (by kernel_rfl) (by kernel_rfl) (by kernel_rfl) ?el1_35 ?dl1_35 hH0 ?_
       case cl1_35 => simp only [List.getElem?_toArray]; rfl
       case el1_35 => exact fun _ _ _ h => h
       case dl1_35 => exact Or.inr ⟨by rfl, rfl⟩
       simp only [Act.put, List.setIfInBounds_toArray, List.set_cons_zero, List.set_cons_succ]
       refine wpAnyH_take (i := 36) (oi := ?al1_36) (v := undef) ?cl1_36 (by kernel_rfl) (by kernel_rfl) (by kernel_rfl) ?el1_36 ?dl1_36 hH0 ?_
       case cl1_36 => simp only [List.getElem?_toArray]; rfl
       case el1_36 => exact fun _ _ _ h => h
       case dl1_36 => exact Or.inr ⟨by rfl, rfl⟩
       simp only [Act.put, List.setIfInBounds_toArray, List.set_cons_zero, List.set_cons_succ]
       refine wpAnyH_take (i := 37) (oi := ?al1_37) (v := undef) ?cl1_37 (by kernel_rfl) (by kernel_rfl) (by kernel_rfl) ?el1_37 ?dl1_37 hH0 ?_
       case cl1_37 => simp only [List.getElem?_toArray]; rfl
       case el1_37 => exact fun _ _ _ h => h
       case dl1_37 => exact Or.inr ⟨by rfl, rfl⟩
       simp only [Act.put, List.setIfInBounds_toArray, List.set_cons_zero, List.set_cons_succ]
       refine wpAnyH_take (i := 38) (oi := ?al1_38) (v := undef) ?cl1_38 (by kernel_rfl) (by kernel_rfl) (by kernel_rfl) ?el1_38 ?dl1_38 hH0 ?_
       case cl1_38 => simp only [List.getElem?_toArray]; rfl
       case el1_38 => exact fun _ _ _ h => h
       case dl1_38 => exact Or.inr ⟨by rfl, rfl⟩
       simp only [Act.put, List.setIfInBounds_toArray, List.set_cons_zero, List.set_cons_succ]
       refine wpAnyH_take (i := 39) (oi := ?al1_39) (v := ?bl1_39) ?cl1_39 (by kernel_rfl) (by kernel_rfl) (by kernel_rfl) ?el1_39 ?dl1_39 hH0 ?_
       case cl1_39 => simp only [List.getElem?_toArray]; rfl
       case el1_39 => exact fun _ _ _ h => h
       case dl1_39 => refine Or.inl ⟨by rfl, ?_⟩; intro W hSw; (try dsimp only at hSw); go_simp; try with_reducible rfl
       simp only [Act.put, List.setIfInBounds_toArray, List.set_cons_zero, List.set_cons_succ]
       refine wpAnyH_take (i := 40) (oi := ?al1_40) (v := ?bl1_40) ?cl1_40 (by kernel_rfl) (by kernel_rfl) (by kernel_rfl) ?el1_40 ?dl1_40 hH0 ?_
       case cl1_40 => simp only [List.getElem?_toArray]; rfl
       case el1_40 => exact fun _ _ _ h => h
       case dl1_40 => refine Or.inl ⟨by rfl, ?_⟩; intro W hSw; (try dsimp only at hSw); go_simp; try with_reducible rfl
       simp only [Act.put, List.setIfInBounds_toArray, List.set_cons_zero, List.set_cons_succ]
       refine wpAnyH_take (i := 41) (oi := ?al1_41) (v := undef) ?cl1_41 (by kernel_rfl) (by kernel_rfl) (by kernel_rfl) ?el1_41 ?dl1_41 hH0 ?_
       case cl1_41 => simp only [List.getElem?_toArray]; rfl
       case el1_41 => exact fun _ _ _ h => h
       case dl1_41 => exact Or.inr ⟨by rfl, rfl⟩
       simp only [Act.put, List.setIfInBounds_toArray, List.set_cons_zero, List.set_cons_succ]
       refine wpAnyH_take (i := 42) (oi := ?al1_42) (v := undef) ?cl1_42 (by kernel_rfl) (by kernel_rfl) (by kernel_rfl) ?el1_42 ?dl1_42 hH0 ?_
       case cl1_42 => simp only [List.getElem?_toArray]; rfl
       case el1_42 => exact fun _ _ _ h => h
       case dl1_42 => exact Or.inr ⟨by rfl, rfl⟩
       simp only [Act.put, List.setIfInBounds_toArray, List.set_cons_zero, List.set_cons_succ]
       refine wpAnyH_take (i := 43) (oi := ?al1_43) (v := undef) ?cl1_43 (by kernel_rfl) (by kernel_rfl) (by kernel_rfl) ?el1_43 ?dl1_43 hH0 ?_
       case cl1_43 => simp only [List.getElem?_toArray]; rfl
       case el1_43 => exact fun _ _ _ h => h
       case dl1_43 => exact Or.inr ⟨by rfl, rfl⟩
       simp only [Act.put, List.setIfInBounds_toArray, List.set_cons_zero, List.set_cons_succ]
       refine wpAnyH_take (i := 44) (oi := ?al1_44) (v := undef) ?cl1_44 (by kernel_rfl) (by kernel_rfl) (by kernel_rfl) ?el1_44 ?dl1_44 hH0 ?_
       case cl1_44 => simp only [List.getElem?_toArray]; rfl
       case el1_44 => exact fun _ _ _ h => h
       case dl1_44 => exact Or.inr ⟨by rfl, rfl⟩
       simp only [Act.put, List.setIfInBounds_toArray, List.set_cons_zero, List.set_cons_succ]
       refine wpAnyH_take (i := 45) (oi := ?al1_45) (v := undef) ?cl1_45 (by kernel_rfl) (by kernel_rfl) (by kernel_rfl) ?el1_45 ?dl1_45 hH0 ?_
       case cl1_45 => simp only [List.getElem?_toArray]; rfl
       case el1_45 => exact fun _ _ _ h => h
       case dl1_45 => exact Or.inr ⟨by rfl, rfl⟩
       simp only [Act.put, List.setIfInBounds_toArray, List.set_cons_zero, List.set_cons_succ]
       refine wpAnyH_take (i := 46) (oi := ?al1_46) (v := undef) ?cl1_46 (by kernel_rfl) (by kernel_rfl) (by kernel_rfl) ?el1_46 ?dl1_46 hH0 ?_
       case cl1_46 => simp only [List.getElem?_toArray]; rfl
       case el1_46 => exact fun _ _ _ h => h
       case dl1_46 => exact Or.inr ⟨by rfl, rfl⟩
       simp only [Act.put, List.setIfInBounds_toArray, List.set_cons_zero, List.set_cons_succ]
       refine wpAnyH_take (i := 47) (oi := ?al1_47) (v := ?bl1_47) ?cl1_47 (by kernel_rfl) (by kernel_rfl) (by kernel_rfl) ?el1_47 ?dl1_47 hH0 ?_
       case cl1_47 => simp only [List.getElem?_toArray]; rfl
       case el1_47 => exact fun _ _ _ h => h
       case dl1_47 => refine Or.inl ⟨by rfl, ?_⟩; intro W hSw; (try dsimp only at hSw); go_simp; try with_reducible rfl
       simp only [Act.put, List.setIfInBounds_toArray, List.set_cons_zero, List.set_cons_succ]
       refine wpAnyH_take (i := 48) (oi := ?al1_48) (v := ?bl1_48) ?cl1_48 (by kernel_rfl) (by kernel_rfl) (by kernel_rfl) ?el1_48 ?dl1_48 hH0 ?_
       case cl1_48 => simp only [List.getElem?_toArray]; rfl
       case el1_48 => exact fun _ _ _ h => h
       case dl1_48 => refine Or.inl ⟨by rfl, ?_⟩; intro W hSw; (try dsimp only at hSw); go_simp; try with_reducible rfl
       simp only [Act.put, List.setIfInBounds_toArray, List.set_cons_zero, List.set_cons_succ]
       refine wpAnyH_take (i := 49) (oi := ?al1_49) (v := undef) ?cl1_49 (by kernel_rfl) (by kernel_rfl) (by kernel_rfl) ?el1_49 ?dl1_49 hH0 ?_
       case cl1_49 => simp only [List.getElem?_toArray]; rfl
       case el1_49 => exact fun _ _ _ h => h
       case dl1_49 => exact Or.inr ⟨by rfl, rfl⟩
       simp only [Act.put, List.setIfInBounds_toArray, List.set_cons_zero, List.set_cons_succ]
       refine wpAnyH_take (i := 50) (oi := ?al1_50) (v := undef) ?cl1_50 (by kernel_rfl) (by kernel_rfl) (by kernel_rfl) ?el1_50 ?dl1_50 hH0 ?_
       case cl1_50 => simp only [List.getElem?_toArray]; rfl
       case el1_50 => exact fun _ _ _ h => h
       case dl1_50 => exact Or.inr ⟨by rfl, rfl⟩
       simp only [Act.put, List.setIfInBounds_toArray, List.set_cons_zero, List.set_cons_succ]
       refine wpAnyH_take (i := 51) (oi := ?al1_51) (v := undef) ?cl1_51 (by kernel_rfl) (by kernel_rfl) (by kernel_rfl) ?el1_51 ?dl1_51 hH0 ?_
       case cl1_51 => simp only [List.getElem?_toArray]; rfl
       case el1_51 => exact fun _ _ _ h => h
       case dl1_51 => exact Or.inr ⟨by rfl, rfl⟩
       simp only [Act.put, List.setIfInBounds_toArray, List.set_cons_zero, List.set_cons_succ]
       refine wpAnyH_take (i := 52) (oi := ?al1_52) (v := undef) ?cl1_52 (by kernel_rfl) (by kernel_rfl) (by kernel_rfl) ?el1_52 ?dl1_52 hH0 ?_
       case cl1_52 => simp only [List.getElem?_toArray]; rfl
       case el1_52 => exact fun _ _ _ h => h
       case dl1_52 => exact Or.inr ⟨by rfl, rfl⟩
       simp only [Act.put, List.setIfInBounds_toArray, List.set_cons_zero, List.set_cons_succ]
       refine wpAnyH_take (i := 53) (oi := ?al1_53) (v := undef) ?cl1_53 (by kernel_rfl) (by kernel_rfl) (by kernel_rfl) ?el1_53 ?dl1_53 hH0 ?_
       case cl1_53 => simp only [List.getElem?_toArray]; rfl
       case el1_53 => exact fun _ _ _ h => h
       case dl1_53 => exact Or.inr ⟨by rfl, rfl⟩
       simp only [Act.put, List.setIfInBounds_toArray, List.set_cons_zero, List.set_cons_succ]
       refine wpAnyH_take (i := 54) (oi := ?al1_54) (v := undef) ?cl1_54 (by kernel_rfl) (by kernel_rfl) (by kernel_rfl) ?el1_54 ?dl1_54 hH0 ?_
       case cl1_54 => simp only [List.getElem?_toArray]; rfl
       case el1_54 => exact fun _ _ _ h => h
       case dl1_54 => exact Or.inr ⟨by rfl, rfl⟩
       simp only [Act.put, List.setIfInBounds_toArray, List.set_cons_zero, List.set_cons_succ]
       refine wpAnyH_take (i := 55) (oi := ?al1_55) (v := undef) ?cl1_55 (by kernel_rfl) (by kernel_rfl) (by kernel_rfl) ?el1_55 ?dl1_55 hH0 ?_
       case cl1_55 => simp only [List.getElem?_toArray]; rfl
       case el1_55 => exact fun _ _ _ h => h
       case dl1_55 => exact Or.inr ⟨by rfl, rfl⟩
       simp only [Act.put, List.setIfInBounds_toArray, List.set_cons_zero, List.set_cons_succ]
       refine wpAnyH_take (i := 56) (oi := ?al1_56) (v := undef) ?cl1_56 (by kernel_rfl) (by kernel_rfl) (by kernel_rfl) ?el1_56 ?dl1_56 hH0 ?_
       case cl1_56 => simp only [List.getElem?_toArray]; rfl
       case el1_56 => exact fun _ _ _ h => h
       case dl1_56 => exact Or.inr ⟨by rfl, rfl⟩
       simp only [Act.put, List.setIfInBounds_toArray, List.set_cons_zero, List.set_cons_succ]
       refine wpAnyH_take (i := 57) (oi := ?al1_57) (v := undef) ?cl1_57 (by kernel_rfl) (by kernel_rfl) (by kernel_rfl) ?el1_57 ?dl1_57 hH0 ?_
       case cl1_57 => simp only [List.getElem?_toArray]; rfl
       case el1_57 => exact fun _ _ _ h => h
       case dl1_57 => exact Or.inr ⟨by rfl, rfl⟩
       simp only [Act.put, List.setIfInBounds_toArray, List.set_cons_zero, List.set_cons_succ]
       refine wpAnyH_take (i := 58) (oi := ?al1_58) (v := undef) ?cl1_58 (by kernel_rfl) (by kernel_rfl) (by kernel_rfl) ?el1_58 ?dl1_58 hH0 ?_
       case cl1_58 => simp only [List.getElem?_toArray]; rfl
       case el1_58 => exact fun _ _ _ h => h
       case dl1_58 => exact Or.inr ⟨by rfl, rfl⟩
       simp only [Act.put, List.setIfInBounds_toArray, List.set_cons_zero, List.set_cons_succ]
       refine wpAnyH_take (i := 59) (oi := ?al1_59) (v := undef) ?cl1_59 (by kernel_rfl) (by kernel_rfl) (by kernel_rfl) ?el1_59 ?dl1_59 hH0 ?_
       case cl1_59 => simp only [List.getElem?_toArray]; rfl
       case el1_59 => exact fun _ _ _ h => h
       case dl1_59 => exact Or.inr ⟨by rfl, rfl⟩
       simp only [Act.put, List.setIfInBounds_toArray, List.set_cons_zero, List.set_cons_succ]
       refine wpAnyH_take (i := 60) (oi := ?al1_60) (v := undef) ?cl1_60 (by kernel_rfl) (by kernel_rfl) (by kernel_rfl) ?el1_60 ?dl1_60 hH0 ?_
       case cl1_60 => simp only [List.getElem?_toArray]; rfl
       case el1_60 => exact fun _ _ _ h => h
       case dl1_60 => exact Or.inr ⟨by rfl, rfl⟩
       simp only [Act.put, List.setIfInBounds_toArray, List.set_cons_zero, List.set_cons_succ]
       refine wpAnyH_take (i := 61) (oi := ?al1_61) (v := undef) ?cl1_61 (by kernel_rfl) (by kernel_rfl) (by kernel_rfl) ?el1_61 ?dl1_61 hH0 ?_
       case cl1_61 => simp only [List.getElem?_toArray]; rfl
       case el1_61 => exact fun _ _ _ h => h
       case dl1_61 => exact Or.inr ⟨by rfl, rfl⟩
       simp only [Act.put, List.setIfInBounds_toArray, List.set_cons_zero, List.set_cons_succ]
       refine wpAnyH_take (i := 62) (oi := ?al1_62) (v := undef) ?cl1_62 (by kernel_rfl) (by kernel_rfl) (by kernel_rfl) ?el1_62 ?dl1_62 hH0 ?_
       case cl1_62 => simp only [List.getElem?_toArray]; rfl
       case el1_62 => exact fun _ _ _ h => h
       case dl1_62 => exact Or.inr ⟨by rfl, rfl⟩
       simp only [Act.put, List.setIfInBounds_toArray, List.set_cons_zero, List.set_cons_succ]
       refine wpAnyH_take (i := 63) (oi := ?al1_63) (v := undef) ?cl1_63 (by kernel_rfl) (by kernel_rfl) (by kernel_rfl) ?el1_63 ?dl1_63 hH0 ?_
       case cl1_63 => simp only [List.getElem?_toArray]; rfl
       case el1_63 => exact fun _ _ _ h => h
       case dl1_63 => exact Or.inr ⟨by rfl, rfl⟩
       simp only [Act.put, List.setIfInBounds_toArray, List.set_cons_zero, List.set_cons_succ]
       refine wpAnyH_take (i := 64) (oi := ?al1_64) (v := undef) ?cl1_64 (by kernel_rfl) (by kernel_rfl) (by kernel_rfl) ?el1_64 ?dl1_64 hH0 ?_
       case cl1_64 => simp only [List.getElem?_toArray]; rfl
       case el1_64 => exact fun _ _ _ h => h
       case dl1_64 => exact Or.inr ⟨by rfl, rfl⟩
       simp only [Act.put, List.setIfInBounds_toArray, List.set_cons_zero, List.set_cons_succ]
       refine wpAnyH_take (i := 65) (oi := ?al1_65) (v := ?bl1_65) ?cl1_65 (by kernel_rfl) (by kernel_rfl) (by kernel_rfl) ?el1_65 ?dl1_65 hH0 ?_
       case cl1_65 => simp only [List.getElem?_toArray]; rfl
       case el1_65 => exact fun _ _ _ h => h
       case dl1_65 => refine Or.inl ⟨by rfl, ?_⟩; intro W hSw; (try dsimp only at hSw); go_simp; try with_reducible rfl
       simp only [Act.put, List.setIfInBounds_toArray, List.set_cons_zero, List.set_cons_succ]
       refine wpAnyH_done (by kernel_rfl) ?_ _
       go_wp2
       all_goals go_meet
       all_goals
        case rel => exact .inl ⟨rfl, by omega, rfl⟩
      ·have D1 : decide (100 < ci) = false := decide_eq_false d1
       by_cases d2 : si < 1
       ·have D2 : decide (si < 1) = true := decide_eq_true d2
        refine region_begin (S := fun X' => X'.cell? ⟨w.heap.size, 0, none⟩ = some (.int .i64 V.epoch) ∧ X'.cell? ⟨w.heap.size, 1, none⟩ = some (.slice (some ⟨b1, o1, none⟩) V.chain.length k1) ∧ X'.cell? ⟨w.heap.size, 2, none⟩ = some (.slice (some ⟨b2, o2, none⟩) V.since.length k2) ∧ X'.cell? ⟨w.heap.size, 3, none⟩ = some (.slice (some ⟨b3, o3, none⟩) V.boot.length k3) ∧ X'.cell? ⟨b1, o1 + k, none⟩ = some (.int .i64 ci) ∧ X'.cell? ⟨b2, o2 + k, none⟩ = some (.int .i64 si) ∧ X'.cell? ⟨b3, o3 + k, none⟩ = some (.int .i64 bi)) 66 rfl (by kernel_rfl) ⟨y0, y1, y2, y3, hc1, hc2, hc3⟩ (fun hH0 => ?_)
        refine wpAnyH_take (i := 0) (oi := ?al2_0) (v := ?bl2_0) ?cl2_0 (by kernel_rfl) (by kernel_rfl) (by kernel_rfl) ?el2_0 ?dl2_0 hH0 ?_
        case cl2_0 => simp only [List.getElem?_toArray]; rfl
        case el2_0 => exact fun _ _ _ h => h
        case dl2_0 => refine Or.inl ⟨by rfl, ?_⟩; intro W hSw; (try dsimp only at hSw); go_simp; try with_reducible rfl
        simp only [Act.put, List.setIfInBounds_toArray, List.set_cons_zero, List.set_cons_succ]
        refine wpAnyH_take (i := 1) (oi := ?al2_1) (v := ?bl2_1) ?cl2_1 (by kernel_rfl) (by kernel_rfl) (by kernel_rfl) ?el2_1 ?dl2_1 hH0 ?_
        case cl2_1 => simp only [List.getElem?_toArray]; rfl
        case el2_1 => exact fun _ _ _ h => h
        case dl2_1 => refine Or.inl ⟨by rfl, ?_⟩; intro W hSw; (try dsimp only at hSw); go_simp; try with_reducible rfl
        simp only [Act.put, List.setIfInBounds_toArray, List.set_cons_zero, List.set_cons_succ]
        refine wpAnyH_take (i := 2) (oi := ?al2_2) (v := ?bl2_2) ?cl2_2 (by kernel_rfl) (by kernel_rfl) (by kernel_rfl) ?el2_2 ?dl2_2 hH0 ?_
        case cl2_2 => simp only [List.getElem?_toArray]; rfl
        case el2_2 => exact fun _ _ _ h => h
        case dl2_2 => refine Or.inl ⟨by rfl, ?_⟩; intro W hSw; (try dsimp only at hSw); go_simp; try with_reducible rfl
        simp only [Act.put, List.setIfInBounds_toArray, List.set_cons_zero, List.set_cons_succ]
        refine wpAnyH_take (i := 3) (oi := ?al2_3) (v := ?bl2_3) ?cl2_3 (by kernel_rfl) (by kernel_rfl) (by kernel_rfl) ?el2_3 ?dl2_3 hH0 ?_
        case cl2_3 => simp only [List.getElem?_toArray]; rfl
        case el2_3 => exact fun _ _ _ h => h
        case dl2_3 => refine Or.inl ⟨by rfl, ?_⟩; intro W hSw; (try dsimp only at hSw); go_simp; try with_reducible rfl
        simp only [Act.put, List.setIfInBounds_toArray, List.set_cons_zero, List.set_cons_succ]
        refine wpAnyH_take (i := 4) (oi := ?al2_4) (v := ?bl2_4) ?cl2_4 (by kernel_rfl) (by kernel_rfl) (by kernel_rfl) ?el2_4 ?dl2_4 hH0 ?_
        case cl2_4 => simp only [List.getElem?_toArray]; rfl
        case el2_4 => exact fun _ _ _ h => h
        case dl2_4 => refine Or.inl ⟨by rfl, ?_⟩; intro W hSw; (try dsimp only at hSw); go_simp; try with_reducible rfl
        simp only [Act.put, List.setIfInBounds_toArray, List.set_cons_zero, List.set_cons_succ]
        refine wpAnyH_take (i := 5) (oi := ?al2_5) (v := ?bl2_5) ?cl2_5 (by kernel_rfl) (by kernel_rfl) (by kernel_rfl) ?el2_5 ?dl2_5 hH0 ?_
        case cl2_5 => simp only [List.getElem?_toArray]; rfl
        case el2_5 => exact fun _ _ _ h => h
        case dl2_5 => refine Or.inl ⟨by rfl, ?_⟩; intro W hSw; (try dsimp only at hSw); go_simp; try with_reducible rfl
        simp only [Act.put, List.setIfInBounds_toArray, List.set_cons_zero, List.set_cons_succ]
        refine wpAnyH_take (i := 6) (oi := ?al2_6) (v := ?bl2_6) ?cl2_6 (by kernel_rfl) (by kernel_rfl) (by kernel_rfl) ?el2_6 ?dl2_6 hH0 ?_
        case cl2_6 => simp only [List.getElem?_toArray]; rfl
        case el2_6 => exact fun _ _ _ h => h
        case dl2_6 => refine Or.inl ⟨by rfl, ?_⟩; intro W hSw; (try dsimp only at hSw); go_simp; try with_reducible rfl
        simp only [Act.put, List.setIfInBounds_toArray, List.set_cons_zero, List.set_cons_succ]
        refine wpAnyH_take (i := 7) (oi := ?al2_7) (v := ?bl2_7) ?cl2_7 (by kernel_rfl) (by kernel_rfl) (by kernel_rfl) ?el2_7 ?dl2_7 hH0 ?_
        case cl2_7 => simp only [List.getElem?_toArray]; rfl
        case el2_7 => exact fun _ _ _ h => h
        case dl2_7 => refine Or.inl ⟨by rfl, ?_⟩; intro W hSw; (try dsimp only at hSw); go_simp; try with_reducible rfl
        simp only [Act.put, List.setIfInBounds_toArray, List.set_cons_zero, List.set_cons_succ]
        refine wpAnyH_take (i := 8) (oi := ?al2_8) (v := ?bl2_8) ?cl2_8 (by kernel_rfl) (by kernel_rfl) (by kernel_rfl) ?el2_8 ?dl2_8 hH0 ?_
        case cl2_8 => simp only [List.getElem?_toArray]; rfl
        case el2_8 => exact fun _ _ _ h => h
        case dl2_8 => refine Or.inl ⟨by rfl, ?_⟩; intro W hSw; (try dsimp only at hSw); go_simp; try with_reducible rfl
        simp only [Act.put, List.setIfInBounds_toArray, List.set_cons_zero, List.set_cons_succ]
        refine wpAnyH_take (i := 9) (oi := ?al2_9) (v := ?bl2_9) ?cl2_9 (by kernel_rfl) (by kernel_rfl) (by kernel_rfl) ?el2_9 ?dl2_9 hH0 ?_
        case cl2_9 => simp only [List.getElem?_toArray]; rfl
        case el2_9 => exact fun _ _ _ h => h
        case dl2_9 => refine Or.inl ⟨by rfl, ?_⟩; intro W hSw; (try dsimp only at hSw); go_simp; try with_reducible rfl
        simp only [Act.put, List.setIfInBounds_toArray, List.set_cons_zero, List.set_cons_succ]
        refine wpAnyH_take (i := 10) (oi := ?al2_10) (v := ?bl2_10) ?cl2_10 (by kernel_rfl) (by kernel_rfl) (by kernel_rfl) ?el2_10 ?dl2_10 hH0 ?_
        case cl2_10 => simp only [List.getElem?_toArray]; rfl
        case el2_10 => exact fun _ _ _ h => h
        case dl2_10 => refine Or.inl ⟨by rfl, ?_⟩; intro W hSw; (try dsimp only at hSw); go_simp; try with_reducible rfl
        simp only [Act.put, List.setIfInBounds_toArray, List.set_cons_zero, List.set_cons_succ]
        refine wpAnyH_take (i := 11) (oi := ?al2_11) (v := ?bl2_11) ?cl2_11 (by kernel_rfl) (by kernel_rfl) (by kernel_rfl) ?el2_11 ?dl2_11 hH0 ?_
        case cl2_11 => simp only [List.getElem?_toArray]; rfl
        case el2_11 => exact fun _ _ _ h => h
        case dl2_11 => refine Or.inl ⟨by rfl, ?_⟩; intro W hSw; (try dsimp only at hSw); go_simp; try with_reducible rfl
        simp only [Act.put, List.setIfInBounds_toArray, List.set_cons_zero, List.set_cons_succ]
        refine wpAnyH_take (i := 12) (oi := ?al2_12) (v := ?bl2_12) ?cl2_12 (by kernel_rfl) (by kernel_rfl) (by kernel_rfl) ?el2_12 ?dl2_12 hH0 ?_
        case cl2_12 => simp only [List.getElem?_toArray]; rfl
        case el2_12 => exact fun _ _ _ h => h
        case dl2_12 => refine Or.inl ⟨by rfl, ?_⟩; intro W hSw; (try dsimp only at hSw); go_simp; try with_reducible rfl
        simp only [Act.put, List.setIfInBounds_toArray, List.set_cons_zero, List.set_cons_succ]
        refine wpAnyH_take (i := 13) (oi := ?al2_13) (v := ?bl2_13) ?cl2_13 (by kernel_rfl) (by kernel_rfl) (by kernel_rfl) ?el2_13 ?dl2_13 hH0 ?_
        case cl2_13 => simp only [List.getElem?_toArray]; rfl
        case el2_13 => exact fun _ _ _ h => h
        case dl2_13 => refine Or.inl ⟨by rfl, ?_⟩; intro W hSw; (try dsimp only at hSw); go_simp; try with_reducible rfl
        simp only [Act.put, List.setIfInBounds_toArray, List.set_cons_zero, List.set_cons_succ]
        refine wpAnyH_take (i := 14) (oi := ?al2_14) (v := ?bl2_14) ?cl2_14 (by kernel_rfl) (by kernel_rfl) (by kernel_rfl) ?el2_14 ?dl2_14 hH0 ?_
        case cl2_14 => simp only [List.getElem?_toArray]; rfl
        case el2_14 => exact fun _ _ _ h => h
        case dl2_14 => refine Or.inl ⟨by rfl, ?_⟩; intro W hSw; (try dsimp only at hSw); go_simp; try with_reducible rfl
        simp only [Act.put, List.setIfInBounds_toArray, List.set_cons_zero, List.set_cons_succ]
        refine wpAnyH_take (i := 15) (oi := ?al2_15) (v := ?bl2_15) ?cl2_15 (by kernel_rfl) (by kernel_rfl) (by kernel_rfl) ?el2_15 ?dl2_15 hH0 ?_
        case cl2_15 => simp only [List.getElem?_toArray]; rfl
        case el2_15 => exact fun _ _ _ h => h
        case dl2_15 => refine Or.inl ⟨by rfl, ?_⟩; intro W hSw; (try dsimp only at hSw); go_simp; try with_reducible rfl
        simp only [Act.put, List.setIfInBounds_toArray, List.set_cons_zero, List.set_cons_succ]
        refine wpAnyH_take (i := 16) (oi := ?al2_16) (v := ?bl2_16) ?cl2_16 (by kernel_rfl) (by kernel_rfl) (by kernel_rfl) ?el2_16 ?dl2_16 hH0 ?_
        case cl2_16 => simp only [List.getElem?_toArray]; rfl
        case el2_16 => exact fun _ _ _ h => h
        case dl2_16 => refine Or.inl ⟨by rfl, ?_⟩; intro W hSw; (try dsimp only at hSw); go_simp; try with_reducible rfl
        simp only [Act.put, List.setIfInBounds_toArray, List.set_cons_zero, List.set_cons_succ]
        refine wpAnyH_take (i := 17) (oi := ?al2_17) (v := ?bl2_17) ?cl2_17 (by kernel_rfl) (by kernel_rfl) (by kernel_rfl) ?el2_17 ?dl2_17 hH0 ?_
        case cl2_17 => simp only [List.getElem?_toArray]; rfl
        case el2_17 => exact fun _ _ _ h => h
        case dl2_17 => refine Or.inl ⟨by rfl, ?_⟩; intro W hSw; (try dsimp only at hSw); go_simp; try with_reducible rfl
        simp only [Act.put, List.setIfInBounds_toArray, List.set_cons_zero, List.set_cons_succ]
        refine wpAnyH_take (i := 18) (oi := ?al2_18) (v := ?bl2_18) ?cl2_18 (by kernel_rfl) (by kernel_rfl) (by kernel_rfl) ?el2_18 ?dl2_18 hH0 ?_
        case cl2_18 => simp only [List.getElem?_toArray]; rfl
        case el2_18 => exact fun _ _ _ h => h
        case dl2_18 => refine Or.inl ⟨by rfl, ?_⟩; intro W hSw; (try dsimp only at hSw); go_simp; try with_reducible rfl
        simp only [Act.put, List.setIfInBounds_toArray, List.set_cons_zero, List.set_cons_succ]
        refine wpAnyH_take (i := 19) (oi := ?al2_19) (v := ?bl2_19) ?cl2_19 (by kernel_rfl) (by kernel_rfl) (by kernel_rfl) ?el2_19 ?dl2_19 hH0 ?_
        case cl2_19 => simp only [List.getElem?_toArray]; rfl
        case el2_19 => exact fun _ _ _ h => h
        case dl2_19 => refine Or.inl ⟨by rfl, ?_⟩; intro W hSw; (try dsimp only at hSw); go_simp; try with_reducible rfl
        simp only [Act.put, List.setIfInBounds_toArray, List.set_cons_zero, List.set_cons_succ]
        refine wpAnyH_take (i := 20) (oi := ?al2_20) (v := ?bl2_20) ?cl2_20 (by kernel_rfl) (by kernel_rfl) (by kernel_rfl) ?el2_20 ?dl2_20 hH0 ?_
        case cl2_20 => simp only [List.getElem?_toArray]; rfl
        case el2_20 => exact fun _ _ _ h => h
        case dl2_20 => refine Or.inl ⟨by rfl, ?_⟩; intro W hSw; (try dsimp only at hSw); go_simp; try with_reducible rfl
        simp only [Act.put, List.setIfInBounds_toArray, List.set_cons_zero, List.set_cons_succ]
        refine wpAnyH_take (i := 21) (oi := ?al2_21) (v := ?bl2_21) ?cl2_21 (by kernel_rfl) (by kernel_rfl) (by kernel_rfl) ?el2_21 ?dl2_21 hH0 ?_
        case cl2_21 => simp only [List.getElem?_toArray]; rfl
        case el2_21 => exact fun _ _ _ h => h
        case dl2_21 => refine Or.inl ⟨by rfl, ?_⟩; intro W hSw; (try dsimp only at hSw); go_simp; try with_reducible rfl
        simp only [Act.put, List.setIfInBounds_toArray, List.set_cons_zero, List.set_cons_succ]
        refine wpAnyH_take (i := 22) (oi := ?al2_22) (v := ?bl2_22) ?cl2_22 (by kernel_rfl) (by kernel_rfl) (by kernel_rfl) ?el2_22 ?dl2_22 hH0 ?_
        case cl2_22 => simp only [List.getElem?_toArray]; rfl
        case el2_22 => exact fun _ _ _ h => h
        case dl2_22 => refine Or.inl ⟨by rfl, ?_⟩; intro W hSw; (try dsimp only at hSw); go_simp; try with_reducible rfl
        simp only [Act.put, List.setIfInBounds_toArray, List.set_cons_zero, List.set_cons_succ]
        refine wpAnyH_take (i := 23) (oi := ?al2_23) (v := undef) ?cl2_23 (by kernel_rfl) (by kernel_rfl) (by kernel_rfl) ?el2_23 ?dl2_23 hH0 ?_
        case cl2_23 => simp only [List.getElem?_toArray]; rfl
        case el2_23 => exact fun _ _ _ h => h
        case dl2_23 => exact Or.inr ⟨by rfl, rfl⟩
        simp only [Act.put, List.setIfInBounds_toArray, List.set_cons_zero, List.set_cons_succ]
        refine wpAnyH_take (i := 24) (oi := ?al2_24) (v := undef) ?cl2_24 (by kernel_rfl) (by kernel_rfl) (by kernel_rfl) ?el2_24 ?dl2_24 hH0 ?_
        case cl2_24 => simp only [List.getElem?_toArray]; rfl
        case el2_24 => exact fun _ _ _ h => h
        case dl2_24 => exact Or.inr ⟨by rfl, rfl⟩
        simp only [Act.put, List.setIfInBounds_toArray, List.set_cons_zero, List.set_cons_succ]
        refine wpAnyH_take (i := 25) (oi := ?al2_25) (v := undef) ?cl2_25 (by kernel_rfl) (by kernel_rfl) (by kernel_rfl) ?el2_25 ?dl2_25 hH0 ?_
        case cl2_25 => simp only [List.getElem?_toArray]; rfl
        case el2_25 => exact fun _ _ _ h => h
        case dl2_25 => exact Or.inr ⟨by rfl, rfl⟩
        simp only [Act.put, List.setIfInBounds_toArray, List.set_cons_zero, List.set_cons_succ]
        refine wpAnyH_take (i := 26) (oi := ?al2_26) (v := undef) ?cl2_26 (by kernel_rfl) (by kernel_rfl) (by kernel_rfl) ?el2_26 ?dl2_26 hH0 ?_
        case cl2_26 => simp only [List.getElem?_toArray]; rfl
        case el2_26 => exact fun _ _ _ h => h
        case dl2_26 => exact Or.inr ⟨by rfl, rfl⟩
        simp only [Act.put, List.setIfInBounds_toArray, List.set_cons_zero, List.set_cons_succ]
        refine wpAnyH_take (i := 27) (oi := ?al2_27) (v := undef) ?cl2_27 (by kernel_rfl) (by kernel_rfl) (by kernel_rfl) ?el2_27 ?dl2_27 hH0 ?_
        case cl2_27 => simp only [List.getElem?_toArray]; rfl
        case el2_27 => exact fun _ _ _ h => h
        case dl2_27 => exact Or.inr ⟨by rfl, rfl⟩
        simp only [Act.put, List.setIfInBounds_toArray, List.set_cons_zero, List.set_cons_succ]
        refine wpAnyH_take (i := 28) (oi := ?al2_28) (v := undef) ?cl2_28 (by kernel_rfl) (by kernel_rfl) (by kernel_rfl) ?el2_28 ?dl2_28 hH0 ?_
        case cl2_28 => simp only [List.getElem?_toArray]; rfl
        case el2_28 => exact fun _ _ _ h => h
        case dl2_28 => exact Or.inr ⟨by rfl, rfl⟩
        simp only [Act.put, List.setIfInBounds_toArray, List.set_cons_zero, List.set_cons_succ]
        refine wpAnyH_take (i := 29) (oi := ?al2_29) (v := undef) ?cl2_29 (by kernel_rfl) (by kernel_rfl) (by kernel_rfl) ?el2_29 ?dl2_29 hH0 ?_
        case cl2_29 => simp only [List.getElem?_toArray]; rfl
        case el2_29 => exact fun _ _ _ h => h
        case dl2_29 => exact Or.inr ⟨by rfl, rfl⟩
        simp only [Act.put, List.setIfInBounds_toArray, List.set_cons_zero, List.set_cons_succ]
        refine wpAnyH_take (i := 30) (oi := ?al2_30) (v := undef) ?cl2_30 (by kernel_rfl) (by kernel_rfl) (by kernel_rfl) ?el2_30 ?dl2_30 hH0 ?_
        case cl2_30 => simp only [List.getElem?_toArray]; rfl
        case el2_30 => exact fun _ _ _ h => h
        case dl2_30 => exact Or.inr ⟨by rfl, rfl⟩
        simp only [Act.put, List.setIfInBounds_toArray, List.set_cons_zero, List.set_cons_succ]
        refine wpAnyH_take (i := 31) (oi := ?al2_31) (v := ?bl2_31) ?cl2_31 (by kernel_rfl) (by kernel_rfl) (by kernel_rfl) ?el2_31 ?dl2_31 hH0 ?_
        case cl2_31 => simp only [List.getElem?_toArray]; rfl
        case el2_31 => exact fun _ _ _ h => h
        case dl2_31 => refine Or.inl ⟨by rfl, ?_⟩; intro W hSw; (try dsimp only at hSw); go_simp; try with_reducible rfl
        simp only [Act.put, List.setIfInBounds_toArray, List.set_cons_zero, List.set_cons_succ]
        refine wpAnyH_take (i := 32) (oi := ?al2_32) (v := ?bl2_32) ?cl2_32 (by kernel_rfl) (by kernel_rfl) (by kernel_rfl) ?el2_32 ?dl2_32 hH0 ?_
        case cl2_32 => simp only [List.getElem?_toArray]; rfl
        case el2_32 => exact fun _ _ _ h => h
        case dl2_32 => refine Or.inl ⟨by rfl, ?_⟩; intro W hSw; (try dsimp only at hSw); go_simp; try with_reducible rfl
        simp only [Act.put, List.setIfInBounds_toArray, List.set_cons_zero, List.set_cons_succ]
        refine wpAnyH_take (i := 33) (oi := ?al2_33) (v := undef) ?cl2_33 (by kernel_rfl) (by kernel_rfl) (by kernel_rfl) ?el2_33 ?dl2_33 hH0 ?_
        case cl2_33 => simp only [List.getElem?_toArray]; rfl
        case el2_33 => exact fun _ _ _ h => h
        case dl2_33 => exact Or.inr ⟨by rfl, rfl⟩
        simp only [Act.put, List.setIfInBounds_toArray, List.set_cons_zero, List.set_cons_succ]
        refine wpAnyH_take (i := 34) (oi := ?al2_34) (v := undef) ?cl2_34 (by kernel_rfl) (by kernel_rfl) (by kernel_rfl) ?el2_34 ?dl2_34 hH0 ?_
        case cl2_34 => simp only [List.getElem?_toArray]; rfl
        case el2_34 => exact fun _ _ _ h => h
        case dl2_34 => exact Or.inr ⟨by rfl, rfl⟩
        simp only [Act.put, List.setIfInBounds_toArray, List.set_cons_zero, List.set_cons_succ]
        refine wpAnyH_take (i := 35) (oi := ?al2_35) (v := undef) ?cl2_35 (by kernel_rfl) (by kernel_rfl) (by kernel_rfl) ?el2_35 ?dl2_35 hH0 ?_
        case cl2_35 => simp only [List.getElem?_toArray]; rfl
        case el2_35 => exact fun _ _ _ h => h
        case dl2_35 => exact Or.inr ⟨by rfl, rfl⟩
        simp only [Act.put, List.setIfInBounds_toArray, List.set_cons_zero, List.set_cons_succ]
        refine wpAnyH_take (i := 36) (oi := ?al2_36) (v := undef) ?cl2_36 (by kernel_rfl) (by kernel_rfl) (by kernel_rfl) ?el2_36 ?dl2_36 hH0 ?_
        case cl2_36 => simp only [List.getElem?_toArray]; rfl
        case el2_36 => exact fun _ _ _ h => h
        case dl2_36 => exact Or.inr ⟨by rfl, rfl⟩
        simp only [Act.put, List.setIfInBounds_toArray, List.set_cons_zero, List.set_cons_succ]
        refine wpAnyH_take (i := 37) (oi := ?al2_37) (v := undef) ?cl2_37 (by kernel_rfl) (by kernel_rfl) (by kernel_rfl) ?el2_37 ?dl2_37 hH0 ?_
        case cl2_37 => simp only [List.getElem?_toArray]; rfl
        case el2_37 => exact fun _ _ _ h => h
        case dl2_37 => exact Or.inr ⟨by rfl, rfl⟩
        simp only [Act.put, List.setIfInBounds_toArray, List.set_cons_zero, List.set_cons_succ]
        refine wpAnyH_take (i := 38) (oi := ?al2_38) (v := undef) ?cl2_38 (by kernel_rfl) (by kernel_rfl) (by kernel_rfl) ?el2_38 ?dl2_38 hH0 ?_
        case cl2_38 => simp only [List.getElem?_toArray]; rfl
        case el2_38 => exact fun _ _ _ h => h
        case dl2_38 => exact Or.inr ⟨by rfl, rfl⟩
        simp only [Act.put, List.setIfInBounds_toArray, List.set_cons_zero, List.set_cons_succ]
        refine wpAnyH_take (i := 39) (oi := ?al2_39) (v := ?bl2_39) ?cl2_39 (by kernel_rfl) (by kernel_rfl) (by kernel_rfl) ?el2_39 ?dl2_39 hH0 ?_
        case cl2_39 => simp only [List.getElem?_toArray]; rfl
        case el2_39 => exact fun _ _ _ h => h
        case dl2_39 => refine Or.inl ⟨by rfl, ?_⟩; intro W hSw; (try dsimp only at hSw); go_simp; try with_reducible rfl
        simp only [Act.put, List.setIfInBounds_toArray, List.set_cons_zero, List.set_cons_succ]
        refine wpAnyH_take (i := 40) (oi := ?al2_40) (v := ?bl2_40) ?cl2_40 (by kernel_rfl) (by kernel_rfl) (by kernel_rfl) ?el2_40 ?dl2_40 hH0 ?_
        case cl2_40 => simp only [List.getElem?_toArray]; rfl
        case el2_40 => exact fun _ _ _ h => h
        case dl2_40 => refine Or.inl ⟨by rfl, ?_⟩; intro W hSw; (try dsimp only at hSw); go_simp; try with_reducible rfl
        simp only [Act.put, List.setIfInBounds_toArray, List.set_cons_zero, List.set_cons_succ]
        refine wpAnyH_take (i := 41) (oi := ?al2_41) (v := undef) ?cl2_41 (by kernel_rfl) (by kernel_rfl) (by kernel_rfl) ?el2_41 ?dl2_41 hH0 ?_
        case cl2_41 => simp only [List.getElem?_toArray]; rfl
        case el2_41 => exact fun _ _ _ h => h
        case dl2_41 => exact Or.inr ⟨by rfl, rfl⟩
        simp only [Act.put, List.setIfInBounds_toArray, List.set_cons_zero, List.set_cons_succ]
        refine wpAnyH_take (i := 42) (oi := ?al2_42) (v := undef) ?cl2_42 (by kernel_rfl) (by kernel_rfl) (by kernel_rfl) ?el2_42 ?dl2_42 hH0 ?_
        case cl2_42 => simp only [List.getElem?_toArray]; rfl
        case el2_42 => exact fun _ _ _ h => h
        case dl2_42 => exact Or.inr ⟨by rfl, rfl⟩
        simp only [Act.put, List.setIfInBounds_toArray, List.set_cons_zero, List.set_cons_succ]
        refine wpAnyH_take (i := 43) (oi := ?al2_43) (v := undef) ?cl2_43 (by kernel_rfl) (by kernel_rfl) (by kernel_rfl) ?el2_43 ?dl2_43 hH0 ?_
        case cl2_43 => simp only [List.getElem?_toArray]; rfl
        case el2_43 => exact fun _ _ _ h => h
        case dl2_43 => exact Or.inr ⟨by rfl, rfl⟩
        simp only [Act.put, List.setIfInBounds_toArray, List.set_cons_zero, List.set_cons_succ]
        refine wpAnyH_take (i := 44) (oi := ?al2_44) (v := undef) ?cl2_44 (by kernel_rfl) (by kernel_rfl) (by kernel_rfl) ?el2_44 ?dl2_44 hH0 ?_
        case cl2_44 => simp only [List.getElem?_toArray]; rfl
        case el2_44 => exact fun _ _ _ h => h
        case dl2_44 => exact Or.inr ⟨by rfl, rfl⟩
        simp only [Act.put, List.setIfInBounds_toArray, List.set_cons_zero, List.set_cons_succ]
        refine wpAnyH_take (i := 45) (oi := ?al2_45) (v := undef) ?cl2_45 (by kernel_rfl) (by kernel_rfl) (by kernel_rfl) ?el2_45 ?dl2_45 hH0 ?_
        case cl2_45 => simp only [List.getElem?_toArray]; rfl
        case el2_45 => exact fun _ _ _ h => h
        case dl2_45 => exact Or.inr ⟨by rfl, rfl⟩
        simp only [Act.put, List.setIfInBounds_toArray, List.set_cons_zero, List.set_cons_succ]
        refine wpAnyH_take (i := 46) (oi := ?al2_46) (v := undef) ?cl2_46 (by kernel_rfl) (by kernel_rfl) (by kernel_rfl) ?el2_46 ?dl2_46 hH0 ?_
        case cl2_46 => simp only [List.getElem?_toArray]; rfl
        case el2_46 => exact fun _ _ _ h => h
        case dl2_46 => exact Or.inr ⟨by rfl, rfl⟩
        simp only [Act.put, List.setIfInBounds_toArray, List.set_cons_zero, List.set_cons_succ]
        refine wpAnyH_take (i := 47) (oi := ?al2_47) (v := ?bl2_47) ?cl2_47 (by kernel_rfl) (by kernel_rfl) (by kernel_rfl) ?el2_47 ?dl2_47 hH0 ?_
        case cl2_47 => simp only [List.getElem?_toArray]; rfl
        case el2_47 => exact fun _ _ _ h => h
        case dl2_47 => refine Or.inl ⟨by rfl, ?_⟩; intro W hSw; (try dsimp only at hSw); go_simp; try with_reducible rfl
        simp only [Act.put, List.setIfInBounds_toArray, List.set_cons_zero, List.set_cons_succ]
        refine wpAnyH_take (i := 48) (oi := ?al2_48) (v := ?bl2_48) ?cl2_48 (by kernel_rfl) (by kernel_rfl) (by kernel_rfl) ?el2_48 ?dl2_48 hH0 ?_
        case cl2_48 => simp only [List.getElem?_toArray]; rfl
        case el2_48 => exact fun _ _ _ h => h
        case dl2_48 => refine Or.inl ⟨by rfl, ?_⟩; intro W hSw; (try dsimp only at hSw); go_simp; try with_reducible rfl
        simp only [Act.put, List.setIfInBounds_toArray, List.set_cons_zero, List.set_cons_succ]
        refine wpAnyH_take (i := 49) (oi := ?al2_49) (v := undef) ?cl2_49 (by kernel_rfl) (by kernel_rfl) (by kernel_rfl) ?el2_49 ?dl2_49 hH0 ?_
        case cl2_49 => simp only [List.getElem?_toArray]; rfl
        case el2_49 => exact fun _ _ _ h => h
        case dl2_49 => exact Or.inr ⟨by rfl, rfl⟩
        simp only [Act.put, List.setIfInBounds_toArray, List.set_cons_zero, List.set_cons_succ]
        refine wpAnyH_take (i := 50) (oi := ?al2_50) (v := undef) ?cl2_50 (by kernel_rfl) (by kernel_rfl) (by kernel_rfl) ?el2_50 ?dl2_50 hH0 ?_
        case cl2_50 => simp only [List.getElem?_toArray]; rfl
        case el2_50 => exact fun _ _ _ h => h
        case dl2_50 => exact Or.inr ⟨by rfl, rfl⟩
        simp only [Act.put, List.setIfInBounds_toArray, List.set_cons_zero, List.set_cons_succ]
        refine wpAnyH_take (i := 51) (oi := ?al2_51) (v := undef) ?cl2_51 (by kernel_rfl) (by kernel_rfl) (by kernel_rfl) ?el2_51 ?dl2_51 hH0 ?_
        case cl2_51 => simp only [List.getElem?_toArray]; rfl
        case el2_51 => exact fun _ _ _ h => h
        case dl2_51 => exact Or.inr ⟨by rfl, rfl⟩
        simp only [Act.put, List.setIfInBounds_toArray, List.set_cons_zero, List.set_cons_succ]
        refine wpAnyH_take (i := 52) (oi := ?al2_52) (v := undef) ?cl2_52 (by kernel_rfl) (by kernel_rfl) (by kernel_rfl) ?el2_52 ?dl2_52 hH0 ?_
        case cl2_52 => simp only [List.getElem?_toArray]; rfl
        case el2_52 => exact fun _ _ _ h => h
        case dl2_52 => exact Or.inr ⟨by rfl, rfl⟩
        simp only [Act.put, List.setIfInBounds_toArray, List.set_cons_zero, List.set_cons_succ]
        refine wpAnyH_take (i := 53) (oi := ?al2_53) (v := undef) ?cl2_53 (by kernel_rfl) (by kernel_rfl) (by kernel_rfl) ?el2_53 ?dl2_53 hH0 ?_
        case cl2_53 => simp only [List.getElem?_toArray]; rfl
        case el2_53 => exact fun _ _ _ h => h
        case dl2_53 => exact Or.inr ⟨by rfl, rfl⟩
        simp only [Act.put, List.setIfInBounds_toArray, List.set_cons_zero, List.set_cons_succ]
        refine wpAnyH_take (i := 54) (oi := ?al2_54) (v := undef) ?cl2_54 (by kernel_rfl) (by kernel_rfl) (by kernel_rfl) ?el2_54 ?dl2_54 hH0 ?_
        case cl2_54 => simp only [List.getElem?_toArray]; rfl
        case el2_54 => exact fun _ _ _ h => h
        case dl2_54 => exact Or.inr ⟨by rfl, rfl⟩
        simp only [Act.put, List.setIfInBounds_toArray, List.set_cons_zero, List.set_cons_succ]
        refine wpAnyH_take (i := 55) (oi := ?al2_55) (v := undef) ?cl2_55 (by kernel_rfl) (by kernel_rfl) (by kernel_rfl) ?el2_55 ?dl2_55 hH0 ?_
        case cl2_55 => simp only [List.getElem?_toArray]; rfl
        case el2_55 => exact fun _ _ _ h => h
        case dl2_55 => exact Or.inr ⟨by rfl, rfl⟩
        simp only [Act.put, List.setIfInBounds_toArray, List.set_cons_zero, List.set_cons_succ]
        refine wpAnyH_take (i := 56) (oi := ?al2_56) (v := undef) ?cl2_56 (by kernel_rfl) (by kernel_rfl) (by kernel_rfl) ?el2_56 ?dl2_56 hH0 ?_
        case cl2_56 => simp only [List.getElem?_toArray]; rfl
        case el2_56 => exact fun _ _ _ h => h
        case dl2_56 => exact Or.inr ⟨by rfl, rfl⟩
        simp only [Act.put, List.setIfInBounds_toArray, List.set_cons_zero, List.set_cons_succ]
        refine wpAnyH_take (i := 57) (oi := ?al2_57) (v := undef) ?cl2_57 (by kernel_rfl) (by kernel_rfl) (by kernel_rfl) ?el2_57 ?dl2_57 hH0 ?_
        case cl2_57 => simp only [List.getElem?_toArray]; rfl
        case el2_57 => exact fun _ _ _ h => h
        case dl2_57 => exact Or.inr ⟨by rfl, rfl⟩
        simp only [Act.put, List.setIfInBounds_toArray, List.set_cons_zero, List.set_cons_succ]
        refine wpAnyH_take (i := 58) (oi := ?al2_58) (v := undef) ?cl2_58 (by kernel_rfl) (by kernel_rfl) (by kernel_rfl) ?el2_58 ?dl2_58 hH0 ?_
        case cl2_58 => simp only [List.getElem?_toArray]; rfl
        case el2_58 => exact fun _ _ _ h => h
        case dl2_58 => exact Or.inr ⟨by rfl, rfl⟩
        simp only [Act.put, List.setIfInBounds_toArray, List.set_cons_zero, List.set_cons_succ]
        refine wpAnyH_take (i := 59) (oi := ?al2_59) (v := undef) ?cl2_59 (by kernel_rfl) (by kernel_rfl) (by kernel_rfl) ?el2_59 ?dl2_59 hH0 ?_
        case cl2_59 => simp only [List.getElem?_toArray]; rfl
        case el2_59 => exact fun _ _ _ h => h
        case dl2_59 => exact Or.inr ⟨by rfl, rfl⟩
        simp only [Act.put, List.setIfInBounds_toArray, List.set_cons_zero, List.set_cons_succ]
        refine wpAnyH_take (i := 60) (oi := ?al2_60) (v := undef) ?cl2_60 (by kernel_rfl) (by kernel_rfl) (by kernel_rfl) ?el2_60 ?dl2_60 hH0 ?_
        case cl2_60 => simp only [List.getElem?_toArray]; rfl
        case el2_60 => exact fun _ _ _ h => h
        case dl2_60 => exact Or.inr ⟨by rfl, rfl⟩
        simp only [Act.put, List.setIfInBounds_toArray, List.set_cons_zero, List.set_cons_succ]
        refine wpAnyH_take (i := 61) (oi := ?al2_61) (v := undef) ?cl2_61 (by kernel_rfl) (by kernel_rfl) (by kernel_rfl) ?el2_61 ?dl2_61 hH0 ?_
        case cl2_61 => simp only [List.getElem?_toArray]; rfl
        case el2_61 => exact fun _ _ _ h => h
        case dl2_61 => exact Or.inr ⟨by rfl, rfl⟩
        simp only [Act.put, List.setIfInBounds_toArray, List.set_cons_zero, List.set_cons_succ]
        refine wpAnyH_take (i := 62) (oi := ?al2_62) (v := undef) ?cl2_62 (by kernel_rfl) (by kernel_rfl) (by kernel_rfl) ?el2_62 ?dl2_62 hH0 ?_
        case cl2_62 => simp only [List.getElem?_toArray]; rfl
        case el2_62 => exact fun _ _ _ h => h
        case dl2_62 => exact Or.inr ⟨by rfl, rfl⟩
        simp only [Act.put, List.setIfInBounds_toArray, List.set_cons_zero, List.set_cons_succ]
        refine wpAnyH_take (i := 63) (oi := ?al2_63) (v := undef) ?cl2_63 (by kernel_rfl) (by kernel_rfl) (by kernel_rfl) ?el2_63 ?dl2_63 hH0 ?_
        case cl2_63 => simp only [List.getElem?_toArray]; rfl
        case el2_63 => exact fun _ _ _ h => h
        case dl2_63 => exact Or.inr ⟨by rfl, rfl⟩
        simp only [Act.put, List.setIfInBounds_toArray, List.set_cons_zero, List.set_cons_succ]
        refine wpAnyH_take (i := 64) (oi := ?al2_64) (v := undef) ?cl2_64 (by kernel_rfl) (by kernel_rfl) (by kernel_rfl) ?el2_64 ?dl2_64 hH0 ?_
        case cl2_64 => simp only [List.getElem?_toArray]; rfl
        case el2_64 => exact fun _ _ _ h => h
        case dl2_64 => exact Or.inr ⟨by rfl, rfl⟩
        simp only [Act.put, List.setIfInBounds_toArray, List.set_cons_zero, List.set_cons_succ]
        refine wpAnyH_take (i := 65) (oi := ?al2_65) (v := ?bl2_65) ?cl2_65 (by kernel_rfl) (by kernel_rfl) (by kernel_rfl) ?el2_65 ?dl2_65 hH0 ?_
        case cl2_65 => simp only [List.getElem?_toArray]; rfl
        case el2_65 => exact fun _ _ _ h => h
        case dl2_65 => refine Or.inl ⟨by rfl, ?_⟩; intro W hSw; (try dsimp only at hSw); go_simp; try with_reducible rfl
        simp only [Act.put, List.setIfInBounds_toArray, List.set_cons_zero, List.set_cons_succ]
        refine wpAnyH_done (by kernel_rfl) ?_ _
        go_wp2
        all_goals go_meet
        all_goals
         case rel => exact .inl ⟨rfl, by omega, rfl⟩
       ·have D2 : decide (si < 1) = false := decide_eq_false d2
        by_cases d3 : V.epoch < si
        ·have D3 : decide (V.epoch < si) = true := decide_eq_true d3
         refine region_begin (S := fun X' => X'.cell? ⟨w.heap.size, 0, none⟩ = some (.int .i64 V.epoch) ∧ X'.cell? ⟨w.heap.size, 1, none⟩ = some (.slice (some ⟨b1, o1, none⟩) V.chain.length k1) ∧ X'.cell? ⟨w.heap.size, 2, none⟩ = some (.slice (some ⟨b2, o2, none⟩) V.since.length k2) ∧ X'.cell? ⟨w.heap.size, 3, none⟩ = some (.slice (some ⟨b3, o3, none⟩) V.boot.length k3) ∧ X'.cell? ⟨b1, o1 + k, none⟩ = some (.int .i64 ci) ∧ X'.cell? ⟨b2, o2 + k, none⟩ = some (.int .i64 si) ∧ X'.cell? ⟨b3, o3 + k, none⟩ = some (.int .i64 bi)) 66 rfl (by kernel_rfl) ⟨y0, y1, y2, y3, hc1, hc2, hc3⟩ (fun hH0 => ?_)
         refine wpAnyH_take (i := 0) (oi := ?al3_0) (v := ?bl3_0) ?cl3_0 (by kernel_rfl) (by kernel_rfl) (by kernel_rfl) ?el3_0 ?dl3_0 hH0 ?_
         case cl3_0 => simp only [List.getElem?_toArray]; rfl
         case el3_0 => exact fun _ _ _ h => h
         case dl3_0 => refine Or.inl ⟨by rfl, ?_⟩; intro W hSw; (try dsimp only at hSw); go_simp; try with_reducible rfl
         simp only [Act.put, List.setIfInBounds_toArray, List.set_cons_zero, List.set_cons_succ]
         refine wpAnyH_take (i := 1) (oi := ?al3_1) (v := ?bl3_1) ?cl3_1 (by kernel_rfl) (by kernel_rfl) (by kernel_rfl) ?el3_1 ?dl3_1 hH0 ?_
         case cl3_1 => simp only [List.getElem?_toArray]; rfl
         case el3_1 => exact fun _ _ _ h => h
         case dl3_1 => refine Or.inl ⟨by rfl, ?_⟩; intro W hSw; (try dsimp only at hSw); go_simp; try with_reducible rfl
         simp only [Act.put, List.setIfInBounds_toArray, List.set_cons_zero, List.set_cons_succ]
         refine wpAnyH_take (i := 2) (oi := ?al3_2) (v := ?bl3_2) ?cl3_2 (by kernel_rfl) (by kernel_rfl) (by kernel_rfl) ?el3_2 ?dl3_2 hH0 ?_
         case cl3_2 => simp only [List.getElem?_toArray]; rfl
         case el3_2 => exact fun _ _ _ h => h
         case dl3_2 => refine Or.inl ⟨by rfl, ?_⟩; intro W hSw; (try dsimp only at hSw); go_simp; try with_reducible rfl
         simp only [Act.put, List.setIfInBounds_toArray, List.set_cons_zero, List.set_cons_succ]
         refine wpAnyH_take (i := 3) (oi := ?al3_3) (v := ?bl3_3) ?cl3_3 (by kernel_rfl) (by kernel_rfl) (by kernel_rfl) ?el3_3 ?dl3_3 hH0 ?_
         case cl3_3 => simp only [List.getElem?_toArray]; rfl
         case el3_3 => exact fun _ _ _ h => h
         case dl3_3 => refine Or.inl ⟨by rfl, ?_⟩; intro W hSw; (try dsimp only at hSw); go_simp; try with_reducible rfl
         simp only [Act.put, List.setIfInBounds_toArray, List.set_cons_zero, List.set_cons_succ]
         refine wpAnyH_take (i := 4) (oi := ?al3_4) (v := ?bl3_4) ?cl3_4 (by kernel_rfl) (by kernel_rfl) (by kernel_rfl) ?el3_4 ?dl3_4 hH0 ?_
         case cl3_4 => simp only [List.getElem?_toArray]; rfl
         case el3_4 => exact fun _ _ _ h => h
         case dl3_4 => refine Or.inl ⟨by rfl, ?_⟩; intro W hSw; (try dsimp only at hSw); go_simp; try with_reducible rfl
         simp only [Act.put, List.setIfInBounds_toArray, List.set_cons_zero, List.set_cons_succ]
         refine wpAnyH_take (i := 5) (oi := ?al3_5) (v := ?bl3_5) ?cl3_5 (by kernel_rfl) (by kernel_rfl) (by kernel_rfl) ?el3_5 ?dl3_5 hH0 ?_
         case cl3_5 => simp only [List.getElem?_toArray]; rfl
         case el3_5 => exact fun _ _ _ h => h
         case dl3_5 => refine Or.inl ⟨by rfl, ?_⟩; intro W hSw; (try dsimp only at hSw); go_simp; try with_reducible rfl
         simp only [Act.put, List.setIfInBounds_toArray, List.set_cons_zero, List.set_cons_succ]
         refine wpAnyH_take (i := 6) (oi := ?al3_6) (v := ?bl3_6) ?cl3_6 (by kernel_rfl) (by kernel_rfl) (by kernel_rfl) ?el3_6 ?dl3_6 hH0 ?_
         case cl3_6 => simp only [List.getElem?_toArray]; rfl
         case el3_6 => exact fun _ _ _ h => h
         case dl3_6 => refine Or.inl ⟨by rfl, ?_⟩; intro W hSw; (try dsimp only at hSw); go_simp; try with_reducible rfl
         simp only [Act.put, List.setIfInBounds_toArray, List.set_cons_zero, List.set_cons_succ]
         refine wpAnyH_take (i := 7) (oi := ?al3_7) (v := ?bl3_7) ?cl3_7 (by kernel_rfl) (by kernel_rfl) (by kernel_rfl) ?el3_7 ?dl3_7 hH0 ?_
         case cl3_7 => simp only [List.getElem?_toArray]; rfl
         case el3_7 => exact fun _ _ _ h => h
         case dl3_7 => refine Or.inl ⟨by rfl, ?_⟩; intro W hSw; (try dsimp only at hSw); go_simp; try with_reducible rfl
         simp only [Act.put, List.setIfInBounds_toArray, List.set_cons_zero, List.set_cons_succ]
         refine wpAnyH_take (i := 8) (oi := ?al3_8) (v := ?bl3_8) ?cl3_8 (by kernel_rfl) (by kernel_rfl) (by kernel_rfl) ?el3_8 ?dl3_8 hH0 ?_
         case cl3_8 => simp only [List.getElem?_toArray]; rfl
         case el3_8 => exact fun _ _ _ h => h
         case dl3_8 => refine Or.inl ⟨by rfl, ?_⟩; intro W hSw; (try dsimp only at hSw); go_simp; try with_reducible rfl
         simp only [Act.put, List.setIfInBounds_toArray, List.set_cons_zero, List.set_cons_succ]
         refine wpAnyH_take (i := 9) (oi := ?al3_9) (v := ?bl3_9) ?cl3_9 (by kernel_rfl) (by kernel_rfl) (by kernel_rfl) ?el3_9 ?dl3_9 hH0 ?_
         case cl3_9 => simp only [List.getElem?_toArray]; rfl
         case el3_9 => exact fun _ _ _ h => h
         case dl3_9 => refine Or.inl ⟨by rfl, ?_⟩; intro W hSw; (try dsimp only at hSw); go_simp; try with_reducible rfl
         simp only [Act.put, List.setIfInBounds_toArray, List.set_cons_zero, List.set_cons_succ]
         refine wpAnyH_take (i := 10) (oi := ?al3_10) (v := ?bl3_10) ?cl3_10 (by kernel_rfl) (by kernel_rfl) (by kernel_rfl) ?el3_10 ?dl3_10 hH0 ?_
         case cl3_10 => simp only [List.getElem?_toArray]; rfl
         case el3_10 => exact fun _ _ _ h => h
         case dl3_10 => refine Or.inl ⟨by rfl, ?_⟩; intro W hSw; (try dsimp only at hSw); go_simp; try with_reducible rfl
         simp only [Act.put, List.setIfInBounds_toArray, List.set_cons_zero, List.set_cons_succ]
         refine wpAnyH_take (i := 11) (oi := ?al3_11) (v := ?bl3_11) ?cl3_11 (by kernel_rfl) (by kernel_rfl) (by kernel_rfl) ?el3_11 ?dl3_11 hH0 ?_
         case cl3_11 => simp only [List.getElem?_toArray]; rfl
         case el3_11 => exact fun _ _ _ h => h
         case dl3_11 => refine Or.inl ⟨by rfl, ?_⟩; intro W hSw; (try dsimp only at hSw); go_simp; try with_reducible rfl
         simp only [Act.put, List.setIfInBounds_toArray, List.set_cons_zero, List.set_cons_succ]
         refine wpAnyH_take (i := 12) (oi := ?al3_12) (v := ?bl3_12) ?cl3_12 (by kernel_rfl) (by kernel_rfl) (by kernel_rfl) ?el3_12 ?dl3_12 hH0 ?_
         case cl3_12 => simp only [List.getElem?_toArray]; rfl
         case el3_12 => exact fun _ _ _ h => h
         case dl3_12 => refine Or.inl ⟨by rfl, ?_⟩; intro W hSw; (try dsimp only at hSw); go_simp; try with_reducible rfl
         simp only [Act.put, List.setIfInBounds_toArray, List.set_cons_zero, List.set_cons_succ]
         refine wpAnyH_take (i := 13) (oi := ?al3_13) (v := ?bl3_13) ?cl3_13 (by kernel_rfl) (by kernel_rfl) (by kernel_rfl) ?el3_13 ?dl3_13 hH0 ?_
         case cl3_13 => simp only [List.getElem?_toArray]; rfl
         case el3_13 => exact fun _ _ _ h => h
         case dl3_13 => refine Or.inl ⟨by rfl, ?_⟩; intro W hSw; (try dsimp only at hSw); go_simp; try with_reducible rfl
         simp only [Act.put, List.setIfInBounds_toArray, List.set_cons_zero, List.set_cons_succ]
         refine wpAnyH_take (i := 14) (oi := ?al3_14) (v := ?bl3_14) ?cl3_14 (by kernel_rfl) (by kernel_rfl) (by kernel_rfl) ?el3_14 ?dl3_14 hH0 ?_
         case cl3_14 => simp only [List.getElem?_toArray]; rfl
         case el3_14 => exact fun _ _ _ h => h
         case dl3_14 => refine Or.inl ⟨by rfl, ?_⟩; intro W hSw; (try dsimp only at hSw); go_simp; try with_reducible rfl
         simp only [Act.put, List.setIfInBounds_toArray, List.set_cons_zero, List.set_cons_succ]
         refine wpAnyH_take (i := 15) (oi := ?al3_15) (v := ?bl3_15) ?cl3_15 (by kernel_rfl) (by kernel_rfl) (by kernel_rfl) ?el3_15 ?dl3_15 hH0 ?_
         case cl3_15 => simp only [List.getElem?_toArray]; rfl
         case el3_15 => exact fun _ _ _ h => h
         case dl3_15 => refine Or.inl ⟨by rfl, ?_⟩; intro W hSw; (try dsimp only at hSw); go_simp; try with_reducible rfl
         simp only [Act.put, List.setIfInBounds_toArray, List.set_cons_zero, List.set_cons_succ]
         refine wpAnyH_take (i := 16) (oi := ?al3_16) (v := ?bl3_16) ?cl3_16 (by kernel_rfl) (by kernel_rfl) (by kernel_rfl) ?el3_16 ?dl3_16 hH0 ?_
         case cl3_16 => simp only [List.getElem?_toArray]; rfl
         case el3_16 => exact fun _ _ _ h => h
         case dl3_16 => refine Or.inl ⟨by rfl, ?_⟩; intro W hSw; (try dsimp only at hSw); go_simp; try with_reducible rfl
         simp only [Act.put, List.setIfInBounds_toArray, List.set_cons_zero, List.set_cons_succ]
         refine wpAnyH_take (i := 17) (oi := ?al3_17) (v := ?bl3_17) ?cl3_17 (by kernel_rfl) (by kernel_rfl) (by kernel_rfl) ?el3_17 ?dl3_17 hH0 ?_
         case cl3_17 => simp only [List.getElem?_toArray]; rfl
         case el3_17 => exact fun _ _ _ h => h
         case dl3_17 => refine Or.inl ⟨by rfl, ?_⟩; intro W hSw; (try dsimp only at hSw); go_simp; try with_reducible rfl
         simp only [Act.put, List.setIfInBounds_toArray, List.set_cons_zero, List.set_cons_succ]
         refine wpAnyH_take (i := 18) (oi := ?al3_18) (v := ?bl3_18) ?cl3_18 (by kernel_rfl) (by kernel_rfl) (by kernel_rfl) ?el3_18 ?dl3_18 hH0 ?_
         case cl3_18 => simp only [List.getElem?_toArray]; rfl
         case el3_18 => exact fun _ _ _ h => h
         case dl3_18 => refine Or.inl ⟨by rfl, ?_⟩; intro W hSw; (try dsimp only at hSw); go_simp; try with_reducible rfl
         simp only [Act.put, List.setIfInBounds_toArray, List.set_cons_zero, List.set_cons_succ]
         refine wpAnyH_take (i := 19) (oi := ?al3_19) (v := ?bl3_19) ?cl3_19 (by kernel_rfl) (by kernel_rfl) (by kernel_rfl) ?el3_19 ?dl3_19 hH0 ?_
         case cl3_19 => simp only [List.getElem?_toArray]; rfl
         case el3_19 => exact fun _ _ _ h => h
         case dl3_19 => refine Or.inl ⟨by rfl, ?_⟩; intro W hSw; (try dsimp only at hSw); go_simp; try with_reducible rfl
         simp only [Act.put, List.setIfInBounds_toArray, List.set_cons_zero, List.set_cons_succ]
         refine wpAnyH_take (i := 20) (oi := ?al3_20) (v := ?bl3_20) ?cl3_20 (by kernel_rfl) (by kernel_rfl) (by kernel_rfl) ?el3_20 ?dl3_20 hH0 ?_
         case cl3_20 => simp only [List.getElem?_toArray]; rfl
         case el3_20 => exact fun _ _ _ h => h
         case dl3_20 => refine Or.inl ⟨by rfl, ?_⟩; intro W hSw; (try dsimp only at hSw); go_simp; try with_reducible rfl
         simp only [Act.put, List.setIfInBounds_toArray, List.set_cons_zero, List.set_cons_succ]
         refine wpAnyH_take (i := 21) (oi := ?al3_21) (v := ?bl3_21) ?cl3_21 (by kernel_rfl) (by kernel_rfl) (by kernel_rfl) ?el3_21 ?dl3_21 hH0 ?_
         case cl3_21 => simp only [List.getElem?_toArray]; rfl
         case el3_21 => exact fun _ _ _ h => h
         case dl3_21 => refine Or.inl ⟨by rfl, ?_⟩; intro W hSw; (try dsimp only at hSw); go_simp; try with_reducible rfl
         simp only [Act.put, List.setIfInBounds_toArray, List.set_cons_zero, List.set_cons_succ]
         refine wpAnyH_take (i := 22) (oi := ?al3_22) (v := ?bl3_22) ?cl3_22 (by kernel_rfl) (by kernel_rfl) (by kernel_rfl) ?el3_22 ?dl3_22 hH0 ?_
         case cl3_22 => simp only [List.getElem?_toArray]; rfl
         case el3_22 => exact fun _ _ _ h => h
         case dl3_22 => refine Or.inl ⟨by rfl, ?_⟩; intro W hSw; (try dsimp only at hSw); go_simp; try with_reducible rfl
         simp only [Act.put, List.setIfInBounds_toArray, List.set_cons_zero, List.set_cons_succ]
         refine wpAnyH_take (i := 23) (oi := ?al3_23) (v := ?bl3_23) ?cl3_23 (by kernel_rfl) (by kernel_rfl) (by kernel_rfl) ?el3_23 ?dl3_23 hH0 ?_
         case cl3_23 => simp only [List.getElem?_toArray]; rfl
         case el3_23 => exact fun _ _ _ h => h
         case dl3_23 => refine Or.inl ⟨by rfl, ?_⟩; intro W hSw; (try dsimp only at hSw); go_simp; try with_reducible rfl
         simp only [Act.put, List.setIfInBounds_toArray, List.set_cons_zero, List.set_cons_succ]
         refine wpAnyH_take (i := 24) (oi := ?al3_24) (v := ?bl3_24) ?cl3_24 (by kernel_rfl) (by kernel_rfl) (by kernel_rfl) ?el3_24 ?dl3_24 hH0 ?_
         case cl3_24 => simp only [List.getElem?_toArray]; rfl
         case el3_24 => exact fun _ _ _ h => h
         case dl3_24 => refine Or.inl ⟨by rfl, ?_⟩; intro W hSw; (try dsimp only at hSw); go_simp; try with_reducible rfl
         simp only [Act.put, List.setIfInBounds_toArray, List.set_cons_zero, List.set_cons_succ]
         refine wpAnyH_take (i := 25) (oi := ?al3_25) (v := ?bl3_25) ?cl3_25 (by kernel_rfl) (by kernel_rfl) (by kernel_rfl) ?el3_25 ?dl3_25 hH0 ?_
         case cl3_25 => simp only [List.getElem?_toArray]; rfl
         case el3_25 => exact fun _ _ _ h => h
         case dl3_25 => refine Or.inl ⟨by rfl, ?_⟩; intro W hSw; (try dsimp only at hSw); go_simp; try with_reducible rfl
         simp only [Act.put, List.setIfInBounds_toArray, List.set_cons_zero, List.set_cons_succ]
         refine wpAnyH_take (i := 26) (oi := ?al3_26) (v := ?bl3_26) ?cl3_26 (by kernel_rfl) (by kernel_rfl) (by kernel_rfl) ?el3_26 ?dl3_26 hH0 ?_
         case cl3_26 => simp only [List.getElem?_toArray]; rfl
         case el3_26 => exact fun _ _ _ h => h
         case dl3_26 => refine Or.inl ⟨by rfl, ?_⟩; intro W hSw; (try dsimp only at hSw); go_simp; try with_reducible rfl
         simp only [Act.put, List.setIfInBounds_toArray, List.set_cons_zero, List.set_cons_succ]
         refine wpAnyH_take (i := 27) (oi := ?al3_27) (v := ?bl3_27) ?cl3_27 (by kernel_rfl) (by kernel_rfl) (by kernel_rfl) ?el3_27 ?dl3_27 hH0 ?_
         case cl3_27 => simp only [List.getElem?_toArray]; rfl
         case el3_27 => exact fun _ _ _ h => h
         case dl3_27 => refine Or.inl ⟨by rfl, ?_⟩; intro W hSw; (try dsimp only at hSw); go_simp; try with_reducible rfl
         simp only [Act.put, List.setIfInBounds_toArray, List.set_cons_zero, List.set_cons_succ]
         refine wpAnyH_take (i := 28) (oi := ?al3_28) (v := ?bl3_28) ?cl3_28 (by kernel_rfl) (by kernel_rfl) (by kernel_rfl) ?el3_28 ?dl3_28 hH0 ?_
         case cl3_28 => simp only [List.getElem?_toArray]; rfl
         case el3_28 => exact fun _ _ _ h => h
         case dl3_28 => refine Or.inl ⟨by rfl, ?_⟩; intro W hSw; (try dsimp only at hSw); go_simp; try with_reducible rfl
         simp only [Act.put, List.setIfInBounds_toArray, List.set_cons_zero, List.set_cons_succ]
         refine wpAnyH_take (i := 29) (oi := ?al3_29) (v := ?bl3_29) ?cl3_29 (by kernel_rfl) (by kernel_rfl) (by kernel_rfl) ?el3_29 ?dl3_29 hH0 ?_
         case cl3_29 => simp only [List.getElem?_toArray]; rfl
         case el3_29 => exact fun _ _ _ h => h
         case dl3_29 => refine Or.inl ⟨by rfl, ?_⟩; intro W hSw; (try dsimp only at hSw); go_simp; try with_reducible rfl
         simp only [Act.put, List.setIfInBounds_toArray, List.set_cons_zero, List.set_cons_succ]
         refine wpAnyH_take (i := 30) (oi := ?al3_30) (v := ?bl3_30) ?cl3_30 (by kernel_rfl) (by kernel_rfl) (by kernel_rfl) ?el3_30 ?dl3_30 hH0 ?_
         case cl3_30 => simp only [List.getElem?_toArray]; rfl
         case el3_30 => exact fun _ _ _ h => h
         case dl3_30 => refine Or.inl ⟨by rfl, ?_⟩; intro W hSw; (try dsimp only at hSw); go_simp; try with_reducible rfl
         simp only [Act.put, List.setIfInBounds_toArray, List.set_cons_zero, List.set_cons_succ]
         refine wpAnyH_take (i := 31) (oi := ?al3_31) (v := ?bl3_31) ?cl3_31 (by kernel_rfl) (by kernel_rfl) (by kernel_rfl) ?el3_31 ?dl3_31 hH0 ?_
         case cl3_31 => simp only [List.getElem?_toArray]; rfl
         case el3_31 => exact fun _ _ _ h => h
         case dl3_31 => refine Or.inl ⟨by rfl, ?_⟩; intro W hSw; (try dsimp only at hSw); go_simp; try with_reducible rfl
         simp only [Act.put, List.setIfInBounds_toArray, List.set_cons_zero, List.set_cons_succ]
         refine wpAnyH_take (i := 32) (oi := ?al3_32) (v := ?bl3_32) ?cl3_32 (by kernel_rfl) (by kernel_rfl) (by kernel_rfl) ?el3_32 ?dl3_32 hH0 ?_
         case cl3_32 => simp only [List.getElem?_toArray]; rfl
         case el3_32 => exact fun _ _ _ h => h
         case dl3_32 => refine Or.inl ⟨by rfl, ?_⟩; intro W hSw; (try dsimp only at hSw); go_simp; try with_reducible rfl
         simp only [Act.put, List.setIfInBounds_toArray, List.set_cons_zero, List.set_cons_succ]
         refine wpAnyH_take (i := 33) (oi := ?al3_33) (v := undef) ?cl3_33 (by kernel_rfl) (by kernel_rfl) (by kernel_rfl) ?el3_33 ?dl3_33 hH0 ?_
         case cl3_33 => simp only [List.getElem?_toArray]; rfl
         case el3_33 => exact fun _ _ _ h => h
         case dl3_33 => exact Or.inr ⟨by rfl, rfl⟩
         simp only [Act.put, List.setIfInBounds_toArray, List.set_cons_zero, List.set_cons_succ]
         refine wpAnyH_take (i := 34) (oi := ?al3_34) (v := undef) ?cl3_34 (by kernel_rfl) (by kernel_rfl) (by kernel_rfl) ?el3_34 ?dl3_34 hH0 ?_
         case cl3_34 => simp only [List.getElem?_toArray]; rfl
         case el3_34 => exact fun _ _ _ h => h
         case dl3_34 => exact Or.inr ⟨by rfl, rfl⟩
         simp only [Act.put, List.setIfInBounds_toArray, List.set_cons_zero, List.set_cons_succ]
         refine wpAnyH_take (i := 35) (oi := ?al3_35) (v := undef) ?cl3_35 (by kernel_rfl) (by kernel_rfl) (by kernel_rfl) ?el3_35 ?dl3_35 hH0 ?_
         case cl3_35 => simp only [List.getElem?_toArray]; rfl
         case el3_35 => exact fun _ _ _ h => h
         case dl3_35 => exact Or.inr ⟨by rfl, rfl⟩
         simp only [Act.put, List.setIfInBounds_toArray, List.set_cons_zero, List.set_cons_succ]
         refine wpAnyH_take (i := 36) (oi := ?al3_36) (v := undef) ?cl3_36 (by kernel_rfl) (by kernel_rfl) (by kernel_rfl) ?el3_36 ?dl3_36 hH0 ?_
         case cl3_36 => simp only [List.getElem?_toArray]; rfl
         case el3_36 => exact fun _ _ _ h => h
         case dl3_36 => exact Or.inr ⟨by rfl, rfl⟩
         simp only [Act.put, List.setIfInBounds_toArray, List.set_cons_zero, List.set_cons_succ]
         refine wpAnyH_take (i := 37) (oi := ?al3_37) (v := undef) ?cl3_37 (by kernel_rfl) (by kernel_rfl) (by kernel_rfl) ?el3_37 ?dl3_37 hH0 ?_
         case cl3_37 => simp only [List.getElem?_toArray]; rfl
         case el3_37 => exact fun _ _ _ h => h
         case dl3_37 => exact Or.inr ⟨by rfl, rfl⟩
         simp only [Act.put, List.setIfInBounds_toArray, List.set_cons_zero, List.set_cons_succ]
         refine wpAnyH_take (i := 38) (oi := ?al3_38) (v := undef) ?cl3_38 (by kernel_rfl) (by kernel_rfl) (by kernel_rfl) ?el3_38 ?dl3_38 hH0 ?_
         case cl3_38 => simp only [List.getElem?_toArray]; rfl
         case el3_38 => exact fun _ _ _ h => h
         case dl3_38 => exact Or.inr ⟨by rfl, rfl⟩
         simp only [Act.put, List.setIfInBounds_toArray, List.set_cons_zero, List.set_cons_succ]
         refine wpAnyH_take (i := 39) (oi := ?al3_39) (v := ?bl3_39) ?cl3_39 (by kernel_rfl) (by kernel_rfl) (by kernel_rfl) ?el3_39 ?dl3_39 hH0 ?_
         case cl3_39 => simp only [List.getElem?_toArray]; rfl
         case el3_39 => exact fun _ _ _ h => h
         case dl3_39 => refine Or.inl ⟨by rfl, ?_⟩; intro W hSw; (try dsimp only at hSw); go_simp; try with_reducible rfl
         simp only [Act.put, List.setIfInBounds_toArray, List.set_cons_zero, List.set_cons_succ]
         refine wpAnyH_take (i := 40) (oi := ?al3_40) (v := ?bl3_40) ?cl3_40 (by kernel_rfl) (by kernel_rfl) (by kernel_rfl) ?el3_40 ?dl3_40 hH0 ?_
         case cl3_40 => simp only [List.getElem?_toArray]; rfl
         case el3_40 => exact fun _ _ _ h => h
         case dl3_40 => refine Or.inl ⟨by rfl, ?_⟩; intro W hSw; (try dsimp only at hSw); go_simp; try with_reducible rfl
         simp only [Act.put, List.setIfInBounds_toArray, List.set_cons_zero, List.set_cons_succ]
         refine wpAnyH_take (i := 41) (oi := ?al3_41) (v := undef) ?cl3_41 (by kernel_rfl) (by kernel_rfl) (by kernel_rfl) ?el3_41 ?dl3_41 hH0 ?_
         case cl3_41 => simp only [List.getElem?_toArray]; rfl
         case el3_41 => exact fun _ _ _ h => h
         case dl3_41 => exact Or.inr ⟨by rfl, rfl⟩
         simp only [Act.put, List.setIfInBounds_toArray, List.set_cons_zero, List.set_cons_succ]
         refine wpAnyH_take (i := 42) (oi := ?al3_42) (v := undef) ?cl3_42 (by kernel_rfl) (by kernel_rfl) (by kernel_rfl) ?el3_42 ?dl3_42 hH0 ?_
         case cl3_42 => simp only [List.getElem?_toArray]; rfl
         case el3_42 => exact fun _ _ _ h => h
         case dl3_42 => exact Or.inr ⟨by rfl, rfl⟩
         simp only [Act.put, List.setIfInBounds_toArray, List.set_cons_zero, List.set_cons_succ]
         refine wpAnyH_take (i := 43) (oi := ?al3_43) (v := undef) ?cl3_43 (by kernel_rfl) (by kernel_rfl) (by kernel_rfl) ?el3_43 ?dl3_43 hH0 ?_
         case cl3_43 => simp only [List.getElem?_toArray]; rfl
         case el3_43 => exact fun _ _ _ h => h
         case dl3_43 => exact Or.inr ⟨by rfl, rfl⟩
         simp only [Act.put, List.setIfInBounds_toArray, List.set_cons_zero, List.set_cons_succ]
         refine wpAnyH_take (i := 44) (oi := ?al3_44) (v := undef) ?cl3_44 (by kernel_rfl) (by kernel_rfl) (by kernel_rfl) ?el3_44 ?dl3_44 hH0 ?_
         case cl3_44 => simp only [List.getElem?_toArray]; rfl
         case el3_44 => exact fun _ _ _ h => h
         case dl3_44 => exact Or.inr ⟨by rfl, rfl⟩
         simp only [Act.put, List.setIfInBounds_toArray, List.set_cons_zero, List.set_cons_succ]
         refine wpAnyH_take (i := 45) (oi := ?al3_45) (v := undef) ?cl3_45 (by kernel_rfl) (by kernel_rfl) (by kernel_rfl) ?el3_45 ?dl3_45 hH0 ?_
         case cl3_45 => simp only [List.getElem?_toArray]; rfl
         case el3_45 => exact fun _ _ _ h => h
         case dl3_45 => exact Or.inr ⟨by rfl, rfl⟩
         simp only [Act.put, List.setIfInBounds_toArray, List.set_cons_zero, List.set_cons_succ]
         refine wpAnyH_take (i := 46) (oi := ?al3_46) (v := undef) ?cl3_46 (by kernel_rfl) (by kernel_rfl) (by kernel_rfl) ?el3_46 ?dl3_46 hH0 ?_
         case cl3_46 => simp only [List.getElem?_toArray]; rfl
         case el3_46 => exact fun _ _ _ h => h
         case dl3_46 => exact Or.inr ⟨by rfl, rfl⟩
         simp only [Act.put, List.setIfInBounds_toArray, List.set_cons_zero, List.set_cons_succ]
         refine wpAnyH_take (i := 47) (oi := ?al3_47) (v := ?bl3_47) ?cl3_47 (by kernel_rfl) (by kernel_rfl) (by kernel_rfl) ?el3_47 ?dl3_47 hH0 ?_
         case cl3_47 => simp only [List.getElem?_toArray]; rfl
         case el3_47 => exact fun _ _ _ h => h
         case dl3_47 => refine Or.inl ⟨by rfl, ?_⟩; intro W hSw; (try dsimp only at hSw); go_simp; try with_reducible rfl
         simp only [Act.put, List.setIfInBounds_toArray, List.set_cons_zero, List.set_cons_succ]
         refine wpAnyH_take (i := 48) (oi := ?al3_48) (v := ?bl3_48) ?cl3_48 (by kernel_rfl) (by kernel_rfl) (by kernel_rfl) ?el3_48 ?dl3_48 hH0 ?_
         case cl3_48 => simp only [List.getElem?_toArray]; rfl
         case el3_48 => exact fun _ _ _ h => h
         case dl3_48 => refine Or.inl ⟨by rfl, ?_⟩; intro W hSw; (try dsimp only at hSw); go_simp; try with_reducible rfl
         simp only [Act.put, List.setIfInBounds_toArray, List.set_cons_zero, List.set_cons_succ]
         refine wpAnyH_take (i := 49) (oi := ?al3_49) (v := undef) ?cl3_49 (by kernel_rfl) (by kernel_rfl) (by kernel_rfl) ?el3_49 ?dl3_49 hH0 ?_
         case cl3_49 => simp only [List.getElem?_toArray]; rfl
         case el3_49 => exact fun _ _ _ h => h
         case dl3_49 => exact Or.inr ⟨by rfl, rfl⟩
         simp only [Act.put, List.setIfInBounds_toArray, List.set_cons_zero, List.set_cons_succ]
         refine wpAnyH_take (i := 50) (oi := ?al3_50) (v := undef) ?cl3_50 (by kernel_rfl) (by kernel_rfl) (by kernel_rfl) ?el3_50 ?dl3_50 hH0 ?_
         case cl3_50 => simp only [List.getElem?_toArray]; rfl
         case el3_50 => exact fun _ _ _ h => h
         case dl3_50 => exact Or.inr ⟨by rfl, rfl⟩
         simp only [Act.put, List.setIfInBounds_toArray, List.set_cons_zero, List.set_cons_succ]
         refine wpAnyH_take (i := 51) (oi := ?al3_51) (v := undef) ?cl3_51 (by kernel_rfl) (by kernel_rfl) (by kernel_rfl) ?el3_51 ?dl3_51 hH0 ?_
         case cl3_51 => simp only [List.getElem?_toArray]; rfl
         case el3_51 => exact fun _ _ _ h => h
         case dl3_51 => exact Or.inr ⟨by rfl, rfl⟩
         simp only [Act.put, List.setIfInBounds_toArray, List.set_cons_zero, List.set_cons_succ]
         refine wpAnyH_take (i := 52) (oi := ?al3_52) (v := undef) ?cl3_52 (by kernel_rfl) (by kernel_rfl) (by kernel_rfl) ?el3_52 ?dl3_52 hH0 ?_
         case cl3_52 => simp only [List.getElem?_toArray]; rfl
         case el3_52 => exact fun _ _ _ h => h
         case dl3_52 => exact Or.inr ⟨by rfl, rfl⟩
         simp only [Act.put, List.setIfInBounds_toArray, List.set_cons_zero, List.set_cons_succ]
         refine wpAnyH_take (i := 53) (oi := ?al3_53) (v := undef) ?cl3_53 (by kernel_rfl) (by kernel_rfl) (by kernel_rfl) ?el3_53 ?dl3_53 hH0 ?_
         case cl3_53 => simp only [List.getElem?_toArray]; rfl
         case el3_53 => exact fun _ _ _ h => h
         case dl3_53 => exact Or.inr ⟨by rfl, rfl⟩
         simp only [Act.put, List.setIfInBounds_toArray, List.set_cons_zero, List.set_cons_succ]
         refine wpAnyH_take (i := 54) (oi := ?al3_54) (v := undef) ?cl3_54 (by kernel_rfl) (by kernel_rfl) (by kernel_rfl) ?el3_54 ?dl3_54 hH0 ?_
         case cl3_54 => simp only [List.getElem?_toArray]; rfl
         case el3_54 => exact fun _ _ _ h => h
         case dl3_54 => exact Or.inr ⟨by rfl, rfl⟩
         simp only [Act.put, List.setIfInBounds_toArray, List.set_cons_zero, List.set_cons_succ]
         refine wpAnyH_take (i := 55) (oi := ?al3_55) (v := undef) ?cl3_55 (by kernel_rfl) (by kernel_rfl) (by kernel_rfl) ?el3_55 ?dl3_55 hH0 ?_
         case cl3_55 => simp only [List.getElem?_toArray]; rfl
         case el3_55 => exact fun _ _ _ h => h
         case dl3_55 => exact Or.inr ⟨by rfl, rfl⟩
         simp only [Act.put, List.setIfInBounds_toArray, List.set_cons_zero, List.set_cons_succ]
         refine wpAnyH_take (i := 56) (oi := ?al3_56) (v := undef) ?cl3_56 (by kernel_rfl) (by kernel_rfl) (by kernel_rfl) ?el3_56 ?dl3_56 hH0 ?_
         case cl3_56 => simp only [List.getElem?_toArray]; rfl
         case el3_56 => exact fun _ _ _ h => h
         case dl3_56 => exact Or.inr ⟨by rfl, rfl⟩
         simp only [Act.put, List.setIfInBounds_toArray, List.set_cons_zero, List.set_cons_succ]
         refine wpAnyH_take (i := 57) (oi := ?al3_57) (v := undef) ?cl3_57 (by kernel_rfl) (by kernel_rfl) (by kernel_rfl) ?el3_57 ?dl3_57 hH0 ?_
         case cl3_57 => simp only [List.getElem?_toArray]; rfl
         case el3_57 => exact fun _ _ _ h => h
         case dl3_57 => exact Or.inr ⟨by rfl, rfl⟩
         simp only [Act.put, List.setIfInBounds_toArray, List.set_cons_zero, List.set_cons_succ]
         refine wpAnyH_take (i := 58) (oi := ?al3_58) (v := undef) ?cl3_58 (by kernel_rfl) (by kernel_rfl) (by kernel_rfl) ?el3_58 ?dl3_58 hH0 ?_
         case cl3_58 => simp only [List.getElem?_toArray]; rfl
         case el3_58 => exact fun _ _ _ h => h
         case dl3_58 => exact Or.inr ⟨by rfl, rfl⟩
         simp only [Act.put, List.setIfInBounds_toArray, List.set_cons_zero, List.set_cons_succ]
         refine wpAnyH_take (i := 59) (oi := ?al3_59) (v := undef) ?cl3_59 (by kernel_rfl) (by kernel_rfl) (by kernel_rfl) ?el3_59 ?dl3_59 hH0 ?_
         case cl3_59 => simp only [List.getElem?_toArray]; rfl
         case el3_59 => exact fun _ _ _ h => h
         case dl3_59 => exact Or.inr ⟨by rfl, rfl⟩
         simp only [Act.put, List.setIfInBounds_toArray, List.set_cons_zero, List.set_cons_succ]
         refine wpAnyH_take (i := 60) (oi := ?al3_60) (v := undef) ?cl3_60 (by kernel_rfl) (by kernel_rfl) (by kernel_rfl) ?el3_60 ?dl3_60 hH0 ?_
         case cl3_60 => simp only [List.getElem?_toArray]; rfl
         case el3_60 => exact fun _ _ _ h => h
         case dl3_60 => exact Or.inr ⟨by rfl, rfl⟩
         simp only [Act.put, List.setIfInBounds_toArray, List.set_cons_zero, List.set_cons_succ]
         refine wpAnyH_take (i := 61) (oi := ?al3_61) (v := undef) ?cl3_61 (by kernel_rfl) (by kernel_rfl) (by kernel_rfl) ?el3_61 ?dl3_61 hH0 ?_
         case cl3_61 => simp only [List.getElem?_toArray]; rfl
         case el3_61 => exact fun _ _ _ h => h
         case dl3_61 => exact Or.inr ⟨by rfl, rfl⟩
         simp only [Act.put, List.setIfInBounds_toArray, List.set_cons_zero, List.set_cons_succ]
         refine wpAnyH_take (i := 62) (oi := ?al3_62) (v := undef) ?cl3_62 (by kernel_rfl) (by kernel_rfl) (by kernel_rfl) ?el3_62 ?dl3_62 hH0 ?_
         case cl3_62 => simp only [List.getElem?_toArray]; rfl
         case el3_62 => exact fun _ _ _ h => h
         case dl3_62 => exact Or.inr ⟨by rfl, rfl⟩
         simp only [Act.put, List.setIfInBounds_toArray, List.set_cons_zero, List.set_cons_succ]
         refine wpAnyH_take (i := 63) (oi := ?al3_63) (v := undef) ?cl3_63 (by kernel_rfl) (by kernel_rfl) (by kernel_rfl) ?el3_63 ?dl3_63 hH0 ?_
         case cl3_63 => simp only [List.getElem?_toArray]; rfl
         case el3_63 => exact fun _ _ _ h => h
         case dl3_63 => exact Or.inr ⟨by rfl, rfl⟩
         simp only [Act.put, List.setIfInBounds_toArray, List.set_cons_zero, List.set_cons_succ]
         refine wpAnyH_take (i := 64) (oi := ?al3_64) (v := undef) ?cl3_64 (by kernel_rfl) (by kernel_rfl) (by kernel_rfl) ?el3_64 ?dl3_64 hH0 ?_
         case cl3_64 => simp only [List.getElem?_toArray]; rfl
         case el3_64 => exact fun _ _ _ h => h
         case dl3_64 => exact Or.inr ⟨by rfl, rfl⟩
         simp only [Act.put, List.setIfInBounds_toArray, List.set_cons_zero, List.set_cons_succ]
         refine wpAnyH_take (i := 65) (oi := ?al3_65) (v := ?bl3_65) ?cl3_65 (by kernel_rfl) (by kernel_rfl) (by kernel_rfl) ?el3_65 ?dl3_65 hH0 ?_
         case cl3_65 => simp only [List.getElem?_toArray]; rfl
         case el3_65 => exact fun _ _ _ h => h
         case dl3_65 => refine Or.inl ⟨by rfl, ?_⟩; intro W hSw; (try dsimp only at hSw); go_simp; try with_reducible rfl
         simp only [Act.put, List.setIfInBounds_toArray, List.set_cons_zero, List.set_cons_succ]
         refine wpAnyH_done (by kernel_rfl) ?_ _
         go_wp2
         all_goals go_meet
         all_goals
          case rel => exact .inl ⟨rfl, by omega, rfl⟩
        ·have D3 : decide (V.epoch < si) = false := decide_eq_false d3
         by_cases d4 : bi < 0
         ·have D4 : decide (bi < 0) = true := decide_eq_true d4
          refine region_begin (S := fun X' => X'.cell? ⟨w.heap.size, 0, none⟩ = some (.int .i64 V.epoch) ∧ X'.cell? ⟨w.heap.size, 1, none⟩ = some (.slice (some ⟨b1, o1, none⟩) V.chain.length k1) ∧ X'.cell? ⟨w.heap.size, 2, none⟩ = some (.slice (some ⟨b2, o2, none⟩) V.since.length k2) ∧ X'.cell? ⟨w.heap.size, 3, none⟩ = some (.slice (some ⟨b3, o3, none⟩) V.boot.length k3) ∧ X'.cell? ⟨b1, o1 + k, none⟩ = some (.int .i64 ci) ∧ X'.cell? ⟨b2, o2 + k, none⟩ = some (.int .i64 si) ∧ X'.cell? ⟨b3, o3 + k, none⟩ = some (.int .i64 bi)) 66 rfl (by kernel_rfl) ⟨y0, y1, y2, y3, hc1, hc2, hc3⟩ (fun hH0 => ?_)
          refine wpAnyH_take (i := 0) (oi := ?al4_0) (v := ?bl4_0) ?cl4_0 (by kernel_rfl) (by kernel_rfl) (by kernel_rfl) ?el4_0 ?dl4_0 hH0 ?_
          case cl4_0 => simp only [List.getElem?_toArray]; rfl
          case el4_0 => exact fun _ _ _ h => h
          case dl4_0 => refine Or.inl ⟨by rfl, ?_⟩; intro W hSw; (try dsimp only at hSw); go_simp; try with_reducible rfl
          simp only [Act.put, List.setIfInBounds_toArray, List.set_cons_zero, List.set_cons_succ]
          refine wpAnyH_take (i := 1) (oi := ?al4_1) (v := ?bl4_1) ?cl4_1 (by kernel_rfl) (by kernel_rfl) (by kernel_rfl) ?el4_1 ?dl4_1 hH0 ?_
          case cl4_1 => simp only [List.getElem?_toArray]; rfl
          case el4_1 => exact fun _ _ _ h => h
          case dl4_1 => refine Or.inl ⟨by rfl, ?_⟩; intro W hSw; (try dsimp only at hSw); go_simp; try with_reducible rfl
          simp only [Act.put, List.setIfInBounds_toArray, List.set_cons_zero, List.set_cons_succ]
          refine wpAnyH_take (i := 2) (oi := ?al4_2) (v := ?bl4_2) ?cl4_2 (by kernel_rfl) (by kernel_rfl) (by kernel_rfl) ?el4_2 ?dl4_2 hH0 ?_
          case cl4_2 => simp only [List.getElem?_toArray]; rfl
          case el4_2 => exact fun _ _ _ h => h
          case dl4_2 => refine Or.inl ⟨by rfl, ?_⟩; intro W hSw; (try dsimp only at hSw); go_simp; try with_reducible rfl
          simp only [Act.put, List.setIfInBounds_toArray, List.set_cons_zero, List.set_cons_succ]
          refine wpAnyH_take (i := 3) (oi := ?al4_3) (v := ?bl4_3) ?cl4_3 (by kernel_rfl) (by kernel_rfl) (by kernel_rfl) ?el4_3 ?dl4_3 hH0 ?_
          case cl4_3 => simp only [List.getElem?_toArray]; rfl
          case el4_3 => exact fun _ _ _ h => h
          case dl4_3 => refine Or.inl ⟨by rfl, ?_⟩; intro W hSw; (try dsimp only at hSw); go_simp; try with_reducible rfl
          simp only [Act.put, List.setIfInBounds_toArray, List.set_cons_zero, List.set_cons_succ]
          refine wpAnyH_take (i := 4) (oi := ?al4_4) (v := ?bl4_4) ?cl4_4 (by kernel_rfl) (by kernel_rfl) (by kernel_rfl) ?el4_4 ?dl4_4 hH0 ?_
          case cl4_4 => simp only [List.getElem?_toArray]; rfl
          case el4_4 => exact fun _ _ _ h => h
          case dl4_4 => refine Or.inl ⟨by rfl, ?_⟩; intro W hSw; (try dsimp only at hSw); go_simp; try with_reducible rfl
          simp only [Act.put, List.setIfInBounds_toArray, List.set_cons_zero, List.set_cons_succ]
          refine wpAnyH_take (i := 5) (oi := ?al4_5) (v := ?bl4_5) ?cl4_5 (by kernel_rfl) (by kernel_rfl) (by kernel_rfl) ?el4_5 ?dl4_5 hH0 ?_
          case cl4_5 => simp only [List.getElem?_toArray]; rfl
          case el4_5 => exact fun _ _ _ h => h
          case dl4_5 => refine Or.inl ⟨by rfl, ?_⟩; intro W hSw; (try dsimp only at hSw); go_simp; try with_reducible rfl
          simp only [Act.put, List.setIfInBounds_toArray, List.set_cons_zero, List.set_cons_succ]
          refine wpAnyH_take (i := 6) (oi := ?al4_6) (v := ?bl4_6) ?cl4_6 (by kernel_rfl) (by kernel_rfl) (by kernel_rfl) ?el4_6 ?dl4_6 hH0 ?_
          case cl4_6 => simp only [List.getElem?_toArray]; rfl
          case el4_6 => exact fun _ _ _ h => h
          case dl4_6 => refine Or.inl ⟨by rfl, ?_⟩; intro W hSw; (try dsimp only at hSw); go_simp; try with_reducible rfl
          simp only [Act.put, List.setIfInBounds_toArray, List.set_cons_zero, List.set_cons_succ]
          refine wpAnyH_take (i := 7) (oi := ?al4_7) (v := ?bl4_7) ?cl4_7 (by kernel_rfl) (by kernel_rfl) (by kernel_rfl) ?el4_7 ?dl4_7 hH0 ?_
          case cl4_7 => simp only [List.getElem?_toArray]; rfl
          case el4_7 => exact fun _ _ _ h => h
          case dl4_7 => refine Or.inl ⟨by rfl, ?_⟩; intro W hSw; (try dsimp only at hSw); go_simp; try with_reducible rfl
          simp only [Act.put, List.setIfInBounds_toArray, List.set_cons_zero, List.set_cons_succ]
          refine wpAnyH_take (i := 8) (oi := ?al4_8) (v := ?bl4_8) ?cl4_8 (by kernel_rfl) (by kernel_rfl) (by kernel_rfl) ?el4_8 ?dl4_8 hH0 ?_
          case cl4_8 => simp only [List.getElem?_toArray]; rfl
          case el4_8 => exact fun _ _ _ h => h
          case dl4_8 => refine Or.inl ⟨by rfl, ?_⟩; intro W hSw; (try dsimp only at hSw); go_simp; try with_reducible rfl
          simp only [Act.put, List.setIfInBounds_toArray, List.set_cons_zero, List.set_cons_succ]
          refine wpAnyH_take (i := 9) (oi := ?al4_9) (v := ?bl4_9) ?cl4_9 (by kernel_rfl) (by kernel_rfl) (by kernel_rfl) ?el4_9 ?dl4_9 hH0 ?_
          case cl4_9 => simp only [List.getElem?_toArray]; rfl
          case el4_9 => exact fun _ _ _ h => h
          case dl4_9 => refine Or.inl ⟨by rfl, ?_⟩; intro W hSw; (try dsimp only at hSw); go_simp; try with_reducible rfl
          simp only [Act.put, List.setIfInBounds_toArray, List.set_cons_zero, List.set_cons_succ]
          refine wpAnyH_take (i := 10) (oi := ?al4_10) (v := ?bl4_10) ?cl4_10 (by kernel_rfl) (by kernel_rfl) (by kernel_rfl) ?el4_10 ?dl4_10 hH0 ?_
          case cl4_10 => simp only [List.getElem?_toArray]; rfl
          case el4_10 => exact fun _ _ _ h => h
          case dl4_10 => refine Or.inl ⟨by rfl, ?_⟩; intro W hSw; (try dsimp only at hSw); go_simp; try with_reducible rfl
          simp only [Act.put, List.setIfInBounds_toArray, List.set_cons_zero, List.set_cons_succ]
          refine wpAnyH_take (i := 11) (oi := ?al4_11) (v := ?bl4_11) ?cl4_11 (by kernel_rfl) (by kernel_rfl) (by kernel_rfl) ?el4_11 ?dl4_11 hH0 ?_
          case cl4_11 => simp only [List.getElem?_toArray]; rfl
          case el4_11 => exact fun _ _ _ h => h
          case dl4_11 => refine Or.inl ⟨by rfl, ?_⟩; intro W hSw; (try dsimp only at hSw); go_simp; try with_reducible rfl
          simp only [Act.put, List.setIfInBounds_toArray, List.set_cons_zero, List.set_cons_succ]
          refine wpAnyH_take (i := 12) (oi := ?al4_12) (v := ?bl4_12) ?cl4_12 (by kernel_rfl) (by kernel_rfl) (by kernel_rfl) ?el4_12 ?dl4_12 hH0 ?_
          case cl4_12 => simp only [List.getElem?_toArray]; rfl
          case el4_12 => exact fun _ _ _ h => h
          case dl4_12 => refine Or.inl ⟨by rfl, ?_⟩; intro W hSw; (try dsimp only at hSw); go_simp; try with_reducible rfl
          simp only [Act.put, List.setIfInBounds_toArray, List.set_cons_zero, List.set_cons_succ]
          refine wpAnyH_take (i := 13) (oi := ?al4_13) (v := ?bl4_13) ?cl4_13 (by kernel_rfl) (by kernel_rfl) (by kernel_rfl) ?el4_13 ?dl4_13 hH0 ?_
          case cl4_13 => simp only [List.getElem?_toArray]; rfl
          case el4_13 => exact fun _ _ _ h => h
          case dl4_13 => refine Or.inl ⟨by rfl, ?_⟩; intro W hSw; (try dsimp only at hSw); go_simp; try with_reducible rfl
          simp only [Act.put, List.setIfInBounds_toArray, List.set_cons_zero, List.set_cons_succ]
          refine wpAnyH_take (i := 14) (oi := ?al4_14) (v := ?bl4_14) ?cl4_14 (by kernel_rfl) (by kernel_rfl) (by kernel_rfl) ?el4_14 ?dl4_14 hH0 ?_
          case cl4_14 => simp only [List.getElem?_toArray]; rfl
          case el4_14 => exact fun _ _ _ h => h
          case dl4_14 => refine Or.inl ⟨by rfl, ?_⟩; intro W hSw; (try dsimp only at hSw); go_simp; try with_reducible rfl
          simp only [Act.put, List.setIfInBounds_toArray, List.set_cons_zero, List.set_cons_succ]
          refine wpAnyH_take (i := 15) (oi := ?al4_15) (v := ?bl4_15) ?cl4_15 (by kernel_rfl) (by kernel_rfl) (by kernel_rfl) ?el4_15 ?dl4_15 hH0 ?_
          case cl4_15 => simp only [List.getElem?_toArray]; rfl
          case el4_15 => exact fun _ _ _ h => h
          case dl4_15 => refine Or.inl ⟨by rfl, ?_⟩; intro W hSw; (try dsimp only at hSw); go_simp; try with_reducible rfl
          simp only [Act.put, List.setIfInBounds_toArray, List.set_cons_zero, List.set_cons_succ]
          refine wpAnyH_take (i := 16) (oi := ?al4_16) (v := ?bl4_16) ?cl4_16 (by kernel_rfl) (by kernel_rfl) (by kernel_rfl) ?el4_16 ?dl4_16 hH0 ?_
          case cl4_16 => simp only [List.getElem?_toArray]; rfl
          case el4_16 => exact fun _ _ _ h => h
          case dl4_16 => refine Or.inl ⟨by rfl, ?_⟩; intro W hSw; (try dsimp only at hSw); go_simp; try with_reducible rfl
          simp only [Act.put, List.setIfInBounds_toArray, List.set_cons_zero, List.set_cons_succ]
          refine wpAnyH_take (i := 17) (oi := ?al4_17) (v := ?bl4_17) ?cl4_17 (by kernel_rfl) (by kernel_rfl) (by kernel_rfl) ?el4_17 ?dl4_17 hH0 ?_
          case cl4_17 => simp only [List.getElem?_toArray]; rfl
          case el4_17 => exact fun _ _ _ h => h
          case dl4_17 => refine Or.inl ⟨by rfl, ?_⟩; intro W hSw; (try dsimp only at hSw); go_simp; try with_reducible rfl
          simp only [Act.put, List.setIfInBounds_toArray, List.set_cons_zero, List.set_cons_succ]
          refine wpAnyH_take (i := 18) (oi := ?al4_18) (v := ?bl4_18) ?cl4_18 (by kernel_rfl) (by kernel_rfl) (by kernel_rfl) ?el4_18 ?dl4_18 hH0 ?_
          case cl4_18 => simp only [List.getElem?_toArray]; rfl
          case el4_18 => exact fun _ _ _ h => h
          case dl4_18 => refine Or.inl ⟨by rfl, ?_⟩; intro W hSw; (try dsimp only at hSw); go_simp; try with_reducible rfl
          simp only [Act.put, List.setIfInBounds_toArray, List.set_cons_zero, List.set_cons_succ]
          refine wpAnyH_take (i := 19) (oi := ?al4_19) (v := ?bl4_19) ?cl4_19 (by kernel_rfl) (by kernel_rfl) (by kernel_rfl) ?el4_19 ?dl4_19 hH0 ?_
          case cl4_19 => simp only [List.getElem?_toArray]; rfl
          case el4_19 => exact fun _ _ _ h => h
          case dl4_19 => refine Or.inl ⟨by rfl, ?_⟩; intro W hSw; (try dsimp only at hSw); go_simp; try with_reducible rfl
          simp only [Act.put, List.setIfInBounds_toArray, List.set_cons_zero, List.set_cons_succ]
          refine wpAnyH_take (i := 20) (oi := ?al4_20) (v := ?bl4_20) ?cl4_20 (by kernel_rfl) (by kernel_rfl) (by kernel_rfl) ?el4_20 ?dl4_20 hH0 ?_
          case cl4_20 => simp only [List.getElem?_toArray]; rfl
          case el4_20 => exact fun _ _ _ h => h
          case dl4_20 => refine Or.inl ⟨by rfl, ?_⟩; intro W hSw; (try dsimp only at hSw); go_simp; try with_reducible rfl
          simp only [Act.put, List.setIfInBounds_toArray, List.set_cons_zero, List.set_cons_succ]
          refine wpAnyH_take (i := 21) (oi := ?al4_21) (v := ?bl4_21) ?cl4_21 (by kernel_rfl) (by kernel_rfl) (by kernel_rfl) ?el4_21 ?dl4_21 hH0 ?_
          case cl4_21 => simp only [List.getElem?_toArray]; rfl
          case el4_21 => exact fun _ _ _ h => h
          case dl4_21 => refine Or.inl ⟨by rfl, ?_⟩; intro W hSw; (try dsimp only at hSw); go_simp; try with_reducible rfl
          simp only [Act.put, List.setIfInBounds_toArray, List.set_cons_zero, List.set_cons_succ]
          refine wpAnyH_take (i := 22) (oi := ?al4_22) (v := ?bl4_22) ?cl4_22 (by kernel_rfl) (by kernel_rfl) (by kernel_rfl) ?el4_22 ?dl4_22 hH0 ?_
          case cl4_22 => simp only [List.getElem?_toArray]; rfl
          case el4_22 => exact fun _ _ _ h => h
          case dl4_22 => refine Or.inl ⟨by rfl, ?_⟩; intro W hSw; (try dsimp only at hSw); go_simp; try with_reducible rfl
          simp only [Act.put, List.setIfInBounds_toArray, List.set_cons_zero, List.set_cons_succ]
          refine wpAnyH_take (i := 23) (oi := ?al4_23) (v := ?bl4_23) ?cl4_23 (by kernel_rfl) (by kernel_rfl) (by kernel_rfl) ?el4_23 ?dl4_23 hH0 ?_
          case cl4_23 => simp only [List.getElem?_toArray]; rfl
          case el4_23 => exact fun _ _ _ h => h
          case dl4_23 => refine Or.inl ⟨by rfl, ?_⟩; intro W hSw; (try dsimp only at hSw); go_simp; try with_reducible rfl
          simp only [Act.put, List.setIfInBounds_toArray, List.set_cons_zero, List.set_cons_succ]
          refine wpAnyH_take (i := 24) (oi := ?al4_24) (v := ?bl4_24) ?cl4_24 (by kernel_rfl) (by kernel_rfl) (by kernel_rfl) ?el4_24 ?dl4_24 hH0 ?_
          case cl4_24 => simp only [List.getElem?_toArray]; rfl
          case el4_24 => exact fun _ _ _ h => h
          case dl4_24 => refine Or.inl ⟨by rfl, ?_⟩; intro W hSw; (try dsimp only at hSw); go_simp; try with_reducible rfl
          simp only [Act.put, List.setIfInBounds_toArray, List.set_cons_zero, List.set_cons_succ]
          refine wpAnyH_take (i := 25) (oi := ?al4_25) (v := ?bl4_25) ?cl4_25 (by kernel_rfl) (by kernel_rfl) (by kernel_rfl) ?el4_25 ?dl4_25 hH0 ?_
          case cl4_25 => simp only [List.getElem?_toArray]; rfl
          case el4_25 => exact fun _ _ _ h => h
          case dl4_25 => refine Or.inl ⟨by rfl, ?_⟩; intro W hSw; (try dsimp only at hSw); go_simp; try with_reducible rfl
          simp only [Act.put, List.setIfInBounds_toArray, List.set_cons_zero, List.set_cons_succ]
          refine wpAnyH_take (i := 26) (oi := ?al4_26) (v := ?bl4_26) ?cl4_26 (by kernel_rfl) (by kernel_rfl) (by kernel_rfl) ?el4_26 ?dl4_26 hH0 ?_
          case cl4_26 => simp only [List.getElem?_toArray]; rfl
          case el4_26 => exact fun _ _ _ h => h
          case dl4_26 => refine Or.inl ⟨by rfl, ?_⟩; intro W hSw; (try dsimp only at hSw); go_simp; try with_reducible rfl
          simp only [Act.put, List.setIfInBounds_toArray, List.set_cons_zero, List.set_cons_succ]
          refine wpAnyH_take (i := 27) (oi := ?al4_27) (v := ?bl4_27) ?cl4_27 (by kernel_rfl) (by kernel_rfl) (by kernel_rfl) ?el4_27 ?dl4_27 hH0 ?_
          case cl4_27 => simp only [List.getElem?_toArray]; rfl
          case el4_27 => exact fun _ _ _ h => h
          case dl4_27 => refine Or.inl ⟨by rfl, ?_⟩; intro W hSw; (try dsimp only at hSw); go_simp; try with_reducible rfl
          simp only [Act.put, List.setIfInBounds_toArray, List.set_cons_zero, List.set_cons_succ]
          refine wpAnyH_take (i := 28) (oi := ?al4_28) (v := ?bl4_28) ?cl4_28 (by kernel_rfl) (by kernel_rfl) (by kernel_rfl) ?el4_28 ?dl4_28 hH0 ?_
          case cl4_28 => simp only [List.getElem?_toArray]; rfl
          case el4_28 => exact fun _ _ _ h => h
          case dl4_28 => refine Or.inl ⟨by rfl, ?_⟩; intro W hSw; (try dsimp only at hSw); go_simp; try with_reducible rfl
          simp only [Act.put, List.setIfInBounds_toArray, List.set_cons_zero, List.set_cons_succ]
          refine wpAnyH_take (i := 29) (oi := ?al4_29) (v := ?bl4_29) ?cl4_29 (by kernel_rfl) (by kernel_rfl) (by kernel_rfl) ?el4_29 ?dl4_29 hH0 ?_
          case cl4_29 => simp only [List.getElem?_toArray]; rfl
          case el4_29 => exact fun _ _ _ h => h
          case dl4_29 => refine Or.inl ⟨by rfl, ?_⟩; intro W hSw; (try dsimp only at hSw); go_simp; try with_reducible rfl
          simp only [Act.put, List.setIfInBounds_toArray, List.set_cons_zero, List.set_cons_succ]
          refine wpAnyH_take (i := 30) (oi := ?al4_30) (v := ?bl4_30) ?cl4_30 (by kernel_rfl) (by kernel_rfl) (by kernel_rfl) ?el4_30 ?dl4_30 hH0 ?_
          case cl4_30 => simp only [List.getElem?_toArray]; rfl
          case el4_30 => exact fun _ _ _ h => h
          case dl4_30 => refine Or.inl ⟨by rfl, ?_⟩; intro W hSw; (try dsimp only at hSw); go_simp; try with_reducible rfl
          simp only [Act.put, List.setIfInBounds_toArray, List.set_cons_zero, List.set_cons_succ]
          refine wpAnyH_take (i := 31) (oi := ?al4_31) (v := ?bl4_31) ?cl4_31 (by kernel_rfl) (by kernel_rfl) (by kernel_rfl) ?el4_31 ?dl4_31 hH0 ?_
          case cl4_31 => simp only [List.getElem?_toArray]; rfl
          case el4_31 => exact fun _ _ _ h => h
          case dl4_31 => refine Or.inl ⟨by rfl, ?_⟩; intro W hSw; (try dsimp only at hSw); go_simp; try with_reducible rfl
          simp only [Act.put, List.setIfInBounds_toArray, List.set_cons_zero, List.set_cons_succ]
          refine wpAnyH_take (i := 32) (oi := ?al4_32) (v := ?bl4_32) ?cl4_32 (by kernel_rfl) (by kernel_rfl) (by kernel_rfl) ?el4_32 ?dl4_32 hH0 ?_
          case cl4_32 => simp only [List.getElem?_toArray]; rfl
          case el4_32 => exact fun _ _ _ h => h
          case dl4_32 => refine Or.inl ⟨by rfl, ?_⟩; intro W hSw; (try dsimp only at hSw); go_simp; try with_reducible rfl
          simp only [Act.put, List.setIfInBounds_toArray, List.set_cons_zero, List.set_cons_succ]
          refine wpAnyH_take (i := 33) (oi := ?al4_33) (v := ?bl4_33) ?cl4_33 (by kernel_rfl) (by kernel_rfl) (by kernel_rfl) ?el4_33 ?dl4_33 hH0 ?_
          case cl4_33 => simp only [List.getElem?_toArray]; rfl
          case el4_33 => exact fun _ _ _ h => h
          case dl4_33 => refine Or.inl ⟨by rfl, ?_⟩; intro W hSw; (try dsimp only at hSw); go_simp; try with_reducible rfl
          simp only [Act.put, List.setIfInBounds_toArray, List.set_cons_zero, List.set_cons_succ]
          refine wpAnyH_take (i := 34) (oi := ?al4_34) (v := ?bl4_34) ?cl4_34 (by kernel_rfl) (by kernel_rfl) (by kernel_rfl) ?el4_34 ?dl4_34 hH0 ?_
          case cl4_34 => simp only [List.getElem?_toArray]; rfl
          case el4_34 => exact fun _ _ _ h => h
          case dl4_34 => refine Or.inl ⟨by rfl, ?_⟩; intro W hSw; (try dsimp only at hSw); go_simp; try with_reducible rfl
          simp only [Act.put, List.setIfInBounds_toArray, List.set_cons_zero, List.set_cons_succ]
          refine wpAnyH_take (i := 35) (oi := ?al4_35) (v := ?bl4_35) ?cl4_35 (by kernel_rfl) (by kernel_rfl) (by kernel_rfl) ?el4_35 ?dl4_35 hH0 ?_
          case cl4_35 => simp only [List.getElem?_toArray]; rfl
          case el4_35 => exact fun _ _ _ h => h
          case dl4_35 => refine Or.inl ⟨by rfl, ?_⟩; intro W hSw; (try dsimp only at hSw); go_simp; try with_reducible rfl
          simp only [Act.put, List.setIfInBounds_toArray, List.set_cons_zero, List.set_cons_succ]
          refine wpAnyH_take (i := 36) (oi := ?al4_36) (v := ?bl4_36) ?cl4_36 (by kernel_rfl) (by kernel_rfl) (by kernel_rfl) ?el4_36 ?dl4_36 hH0 ?_
          case cl4_36 => simp only [List.getElem?_toArray]; rfl
          case el4_36 => exact fun _ _ _ h => h
          case dl4_36 => refine Or.inl ⟨by rfl, ?_⟩; intro W hSw; (try dsimp only at hSw); go_simp; try with_reducible rfl
          simp only [Act.put, List.setIfInBounds_toArray, List.set_cons_zero, List.set_cons_succ]
          refine wpAnyH_take (i := 37) (oi := ?al4_37) (v := ?bl4_37) ?cl4_37 (by kernel_rfl) (by kernel_rfl) (by kernel_rfl) ?el4_37 ?dl4_37 hH0 ?_
          case cl4_37 => simp only [List.getElem?_toArray]; rfl
          case el4_37 => exact fun _ _ _ h => h
          case dl4_37 => refine Or.inl ⟨by rfl, ?_⟩; intro W hSw; (try dsimp only at hSw); go_simp; try with_reducible rfl
          simp only [Act.put, List.setIfInBounds_toArray, List.set_cons_zero, List.set_cons_succ]
          refine wpAnyH_take (i := 38) (oi := ?al4_38) (v := ?bl4_38) ?cl4_38 (by kernel_rfl) (by kernel_rfl) (by kernel_rfl) ?el4_38 ?dl4_38 hH0 ?_
          case cl4_38 => simp only [List.getElem?_toArray]; rfl
          case el4_38 => exact fun _ _ _ h => h
          case dl4_38 => refine Or.inl ⟨by rfl, ?_⟩; intro W hSw; (try dsimp only at hSw); go_simp; try with_reducible rfl
          simp only [Act.put, List.setIfInBounds_toArray, List.set_cons_zero, List.set_cons_succ]
          refine wpAnyH_take (i := 39) (oi := ?al4_39) (v := ?bl4_39) ?cl4_39 (by kernel_rfl) (by kernel_rfl) (by kernel_rfl) ?el4_39 ?dl4_39 hH0 ?_
          case cl4_39 => simp only [List.getElem?_toArray]; rfl
          case el4_39 => exact fun _ _ _ h => h
          case dl4_39 => refine Or.inl ⟨by rfl, ?_⟩; intro W hSw; (try dsimp only at hSw); go_simp; try with_reducible rfl
          simp only [Act.put, List.setIfInBounds_toArray, List.set_cons_zero, List.set_cons_succ]
          refine wpAnyH_take (i := 40) (oi := ?al4_40) (v := ?bl4_40) ?cl4_40 (by kernel_rfl) (by kernel_rfl) (by kernel_rfl) ?el4_40 ?dl4_40 hH0 ?_
          case cl4_40 => simp only [List.getElem?_toArray]; rfl
          case el4_40 => exact fun _ _ _ h => h
          case dl4_40 => refine Or.inl ⟨by rfl, ?_⟩; intro W hSw; (try dsimp only at hSw); go_simp; try with_reducible rfl
          simp only [Act.put, List.setIfInBounds_toArray, List.set_cons_zero, List.set_cons_succ]
          refine wpAnyH_take (i := 41) (oi := ?al4_41) (v := undef) ?cl4_41 (by kernel_rfl) (by kernel_rfl) (by kernel_rfl) ?el4_41 ?dl4_41 hH0 ?_
          case cl4_41 => simp only [List.getElem?_toArray]; rfl
          case el4_41 => exact fun _ _ _ h => h
          case dl4_41 => exact Or.inr ⟨by rfl, rfl⟩
          simp only [Act.put, List.setIfInBounds_toArray, List.set_cons_zero, List.set_cons_succ]
          refine wpAnyH_take (i := 42) (oi := ?al4_42) (v := undef) ?cl4_42 (by kernel_rfl) (by kernel_rfl) (by kernel_rfl) ?el4_42 ?dl4_42 hH0 ?_
          case cl4_42 => simp only [List.getElem?_toArray]; rfl
          case el4_42 => exact fun _ _ _ h => h
          case dl4_42 => exact Or.inr ⟨by rfl, rfl⟩
          simp only [Act.put, List.setIfInBounds_toArray, List.set_cons_zero, List.set_cons_succ]
          refine wpAnyH_take (i := 43) (oi := ?al4_43) (v := undef) ?cl4_43 (by kernel_rfl) (by kernel_rfl) (by kernel_rfl) ?el4_43 ?dl4_43 hH0 ?_
          case cl4_43 => simp only [List.getElem?_toArray]; rfl
          case el4_43 => exact fun _ _ _ h => h
          case dl4_43 => exact Or.inr ⟨by rfl, rfl⟩
          simp only [Act.put, List.setIfInBounds_toArray, List.set_cons_zero, List.set_cons_succ]
          refine wpAnyH_take (i := 44) (oi := ?al4_44) (v := undef) ?cl4_44 (by kernel_rfl) (by kernel_rfl) (by kernel_rfl) ?el4_44 ?dl4_44 hH0 ?_
          case cl4_44 => simp only [List.getElem?_toArray]; rfl
          case el4_44 => exact fun _ _ _ h => h
          case dl4_44 => exact Or.inr ⟨by rfl, rfl⟩
          simp only [Act.put, List.setIfInBounds_toArray, List.set_cons_zero, List.set_cons_succ]
          refine wpAnyH_take (i := 45) (oi := ?al4_45) (v := undef) ?cl4_45 (by kernel_rfl) (by kernel_rfl) (by kernel_rfl) ?el4_45 ?dl4_45 hH0 ?_
          case cl4_45 => simp only [List.getElem?_toArray]; rfl
          case el4_45 => exact fun _ _ _ h => h
          case dl4_45 => exact Or.inr ⟨by rfl, rfl⟩
          simp only [Act.put, List.setIfInBounds_toArray, List.set_cons_zero, List.set_cons_succ]
          refine wpAnyH_take (i := 46) (oi := ?al4_46) (v := undef) ?cl4_46 (by kernel_rfl) (by kernel_rfl) (by kernel_rfl) ?el4_46 ?dl4_46 hH0 ?_
          case cl4_46 => simp only [List.getElem?_toArray]; rfl
          case el4_46 => exact fun _ _ _ h => h
          case dl4_46 => exact Or.inr ⟨by rfl, rfl⟩
          simp only [Act.put, List.setIfInBounds_toArray, List.set_cons_zero, List.set_cons_succ]
          refine wpAnyH_take (i := 47) (oi := ?al4_47) (v := ?bl4_47) ?cl4_47 (by kernel_rfl) (by kernel_rfl) (by kernel_rfl) ?el4_47 ?dl4_47 hH0 ?_
          case cl4_47 => simp only [List.getElem?_toArray]; rfl
          case el4_47 => exact fun _ _ _ h => h
          case dl4_47 => refine Or.inl ⟨by rfl, ?_⟩; intro W hSw; (try dsimp only at hSw); go_simp; try with_reducible rfl
          simp only [Act.put, List.setIfInBounds_toArray, List.set_cons_zero, List.set_cons_succ]
          refine wpAnyH_take (i := 48) (oi := ?al4_48) (v := ?bl4_48) ?cl4_48 (by kernel_rfl) (by kernel_rfl) (by kernel_rfl) ?el4_48 ?dl4_48 hH0 ?_
          case cl4_48 => simp only [List.getElem?_toArray]; rfl
          case el4_48 => exact fun _ _ _ h => h
          case dl4_48 => refine Or.inl ⟨by rfl, ?_⟩; intro W hSw; (try dsimp only at hSw); go_simp; try with_reducible rfl
          simp only [Act.put, List.setIfInBounds_toArray, List.set_cons_zero, List.set_cons_succ]
          refine wpAnyH_take (i := 49) (oi := ?al4_49) (v := undef) ?cl4_49 (by kernel_rfl) (by kernel_rfl) (by kernel_rfl) ?el4_49 ?dl4_49 hH0 ?_
          case cl4_49 => simp only [List.getElem?_toArray]; rfl
          case el4_49 => exact fun _ _ _ h => h
          case dl4_49 => exact Or.inr ⟨by rfl, rfl⟩
          simp only [Act.put, List.setIfInBounds_toArray, List.set_cons_zero, List.set_cons_succ]
          refine wpAnyH_take (i := 50) (oi := ?al4_50) (v := undef) ?cl4_50 (by kernel_rfl) (by kernel_rfl) (by kernel_rfl) ?el4_50 ?dl4_50 hH0 ?_
          case cl4_50 => simp only [List.getElem?_toArray]; rfl
          case el4_50 => exact fun _ _ _ h => h
          case dl4_50 => exact Or.inr ⟨by rfl, rfl⟩
          simp only [Act.put, List.setIfInBounds_toArray, List.set_cons_zero, List.set_cons_succ]
          refine wpAnyH_take (i := 51) (oi := ?al4_51) (v := undef) ?cl4_51 (by kernel_rfl) (by kernel_rfl) (by kernel_rfl) ?el4_51 ?dl4_51 hH0 ?_
          case cl4_51 => simp only [List.getElem?_toArray]; rfl
          case el4_51 => exact fun _ _ _ h => h
          case dl4_51 => exact Or.inr ⟨by rfl, rfl⟩
          simp only [Act.put, List.setIfInBounds_toArray, List.set_cons_zero, List.set_cons_succ]
          refine wpAnyH_take (i := 52) (oi := ?al4_52) (v := undef) ?cl4_52 (by kernel_rfl) (by kernel_rfl) (by kernel_rfl) ?el4_52 ?dl4_52 hH0 ?_
          case cl4_52 => simp only [List.getElem?_toArray]; rfl
          case el4_52 => exact fun _ _ _ h => h
          case dl4_52 => exact Or.inr ⟨by rfl, rfl⟩
          simp only [Act.put, List.setIfInBounds_toArray, List.set_cons_zero, List.set_cons_succ]
          refine wpAnyH_take (i := 53) (oi := ?al4_53) (v := undef) ?cl4_53 (by kernel_rfl) (by kernel_rfl) (by kernel_rfl) ?el4_53 ?dl4_53 hH0 ?_
          case cl4_53 => simp only [List.getElem?_toArray]; rfl
          case el4_53 => exact fun _ _ _ h => h
          case dl4_53 => exact Or.inr ⟨by rfl, rfl⟩
          simp only [Act.put, List.setIfInBounds_toArray, List.set_cons_zero, List.set_cons_succ]
          refine wpAnyH_take (i := 54) (oi := ?al4_54) (v := undef) ?cl4_54 (by kernel_rfl) (by kernel_rfl) (by kernel_rfl) ?el4_54 ?dl4_54 hH0 ?_
          case cl4_54 => simp only [List.getElem?_toArray]; rfl
          case el4_54 => exact fun _ _ _ h => h
          case dl4_54 => exact Or.inr ⟨by rfl, rfl⟩
          simp only [Act.put, List.setIfInBounds_toArray, List.set_cons_zero, List.set_cons_succ]
          refine wpAnyH_take (i := 55) (oi := ?al4_55) (v := undef) ?cl4_55 (by kernel_rfl) (by kernel_rfl) (by kernel_rfl) ?el4_55 ?dl4_55 hH0 ?_
          case cl4_55 => simp only [List.getElem?_toArray]; rfl
          case el4_55 => exact fun _ _ _ h => h
          case dl4_55 => exact Or.inr ⟨by rfl, rfl⟩
          simp only [Act.put, List.setIfInBounds_toArray, List.set_cons_zero, List.set_cons_succ]
          refine wpAnyH_take (i := 56) (oi := ?al4_56) (v := undef) ?cl4_56 (by kernel_rfl) (by kernel_rfl) (by kernel_rfl) ?el4_56 ?dl4_56 hH0 ?_
          case cl4_56 => simp only [List.getElem?_toArray]; rfl
          case el4_56 => exact fun _ _ _ h => h
          case dl4_56 => exact Or.inr ⟨by rfl, rfl⟩
          simp only [Act.put, List.setIfInBounds_toArray, List.set_cons_zero, List.set_cons_succ]
          refine wpAnyH_take (i := 57) (oi := ?al4_57) (v := undef) ?cl4_57 (by kernel_rfl) (by kernel_rfl) (by kernel_rfl) ?el4_57 ?dl4_57 hH0 ?_
          case cl4_57 => simp only [List.getElem?_toArray]; rfl
          case el4_57 => exact fun _ _ _ h => h
          case dl4_57 => exact Or.inr ⟨by rfl, rfl⟩
          simp only [Act.put, List.setIfInBounds_toArray, List.set_cons_zero, List.set_cons_succ]
          refine wpAnyH_take (i := 58) (oi := ?al4_58) (v := undef) ?cl4_58 (by kernel_rfl) (by kernel_rfl) (by kernel_rfl) ?el4_58 ?dl4_58 hH0 ?_
          case cl4_58 => simp only [List.getElem?_toArray]; rfl
          case el4_58 => exact fun _ _ _ h => h
          case dl4_58 => exact Or.inr ⟨by rfl, rfl⟩
          simp only [Act.put, List.setIfInBounds_toArray, List.set_cons_zero, List.set_cons_succ]
          refine wpAnyH_take (i := 59) (oi := ?al4_59) (v := undef) ?cl4_59 (by kernel_rfl) (by kernel_rfl) (by kernel_rfl) ?el4_59 ?dl4_59 hH0 ?_
          case cl4_59 => simp only [List.getElem?_toArray]; rfl
          case el4_59 => exact fun _ _ _ h => h
          case dl4_59 => exact Or.inr ⟨by rfl, rfl⟩
          simp only [Act.put, List.setIfInBounds_toArray, List.set_cons_zero, List.set_cons_succ]
          refine wpAnyH_take (i := 60) (oi := ?al4_60) (v := undef) ?cl4_60 (by kernel_rfl) (by kernel_rfl) (by kernel_rfl) ?el4_60 ?dl4_60 hH0 ?_
          case cl4_60 => simp only [List.getElem?_toArray]; rfl
          case el4_60 => exact fun _ _ _ h => h
          case dl4_60 => exact Or.inr ⟨by rfl, rfl⟩
          simp only [Act.put, List.setIfInBounds_toArray, List.set_cons_zero, List.set_cons_succ]
          refine wpAnyH_take (i := 61) (oi := ?al4_61) (v := undef) ?cl4_61 (by kernel_rfl) (by kernel_rfl) (by kernel_rfl) ?el4_61 ?dl4_61 hH0 ?_
          case cl4_61 => simp only [List.getElem?_toArray]; rfl
          case el4_61 => exact fun _ _ _ h => h
          case dl4_61 => exact Or.inr ⟨by rfl, rfl⟩
          simp only [Act.put, List.setIfInBounds_toArray, List.set_cons_zero, List.set_cons_succ]
          refine wpAnyH_take (i := 62) (oi := ?al4_62) (v := undef) ?cl4_62 (by kernel_rfl) (by kernel_rfl) (by kernel_rfl) ?el4_62 ?dl4_62 hH0 ?_
          case cl4_62 => simp only [List.getElem?_toArray]; rfl
          case el4_62 => exact fun _ _ _ h => h
          case dl4_62 => exact Or.inr ⟨by rfl, rfl⟩
          simp only [Act.put, List.setIfInBounds_toArray, List.set_cons_zero, List.set_cons_succ]
          refine wpAnyH_take (i := 63) (oi := ?al4_63) (v := undef) ?cl4_63 (by kernel_rfl) (by kernel_rfl) (by kernel_rfl) ?el4_63 ?dl4_63 hH0 ?_
          case cl4_63 => simp only [List.getElem?_toArray]; rfl
          case el4_63 => exact fun _ _ _ h => h
          case dl4_63 => exact Or.inr ⟨by rfl, rfl⟩
          simp only [Act.put, List.setIfInBounds_toArray, List.set_cons_zero, List.set_cons_succ]
          refine wpAnyH_take (i := 64) (oi := ?al4_64) (v := undef) ?cl4_64 (by kernel_rfl) (by kernel_rfl) (by kernel_rfl) ?el4_64 ?dl4_64 hH0 ?_
          case cl4_64 => simp only [List.getElem?_toArray]; rfl
          case el4_64 => exact fun _ _ _ h => h
          case dl4_64 => exact Or.inr ⟨by rfl, rfl⟩
          simp only [Act.put, List.setIfInBounds_toArray, List.set_cons_zero, List.set_cons_succ]
          refine wpAnyH_take (i := 65) (oi := ?al4_65) (v := ?bl4_65) ?cl4_65 (by kernel_rfl) (by kernel_rfl) (by kernel_rfl) ?el4_65 ?dl4_65 hH0 ?_
          case cl4_65 => simp only [List.getElem?_toArray]; rfl
          case el4_65 => exact fun _ _ _ h => h
          case dl4_65 => refine Or.inl ⟨by rfl, ?_⟩; intro W hSw; (try dsimp only at hSw); go_simp; try with_reducible rfl
          simp only [Act.put, List.setIfInBounds_toArray, List.set_cons_zero, List.set_cons_succ]
          refine wpAnyH_done (by kernel_rfl) ?_ _
          go_wp2
          all_goals go_meet
          all_goals
           case rel => exact .inl ⟨rfl, by omega, rfl⟩
         ·have D4 : decide (bi < 0) = false := decide_eq_false d4
          by_cases d5 : 274877906944 < bi
          ·have D5 : decide (274877906944 < bi) = true := decide_eq_true d5
           refine region_begin (S := fun X' => X'.cell? ⟨w.heap.size, 0, none⟩ = some (.int .i64 V.epoch) ∧ X'.cell? ⟨w.heap.size, 1, none⟩ = some (.slice (some ⟨b1, o1, none⟩) V.chain.length k1) ∧ X'.cell? ⟨w.heap.size, 2, none⟩ = some (.slice (some ⟨b2, o2, none⟩) V.since.length k2) ∧ X'.cell? ⟨w.heap.size, 3, none⟩ = some (.slice (some ⟨b3, o3, none⟩) V.boot.length k3) ∧ X'.cell? ⟨b1, o1 + k, none⟩ = some (.int .i64 ci) ∧ X'.cell? ⟨b2, o2 + k, none⟩ = some (.int .i64 si) ∧ X'.cell? ⟨b3, o3 + k, none⟩ = some (.int .i64 bi)) 66 rfl (by kernel_rfl) ⟨y0, y1, y2, y3, hc1, hc2, hc3⟩ (fun hH0 => ?_)
           refine wpAnyH_take (i := 0) (oi := ?al5_0) (v := ?bl5_0) ?cl5_0 (by kernel_rfl) (by kernel_rfl) (by kernel_rfl) ?el5_0 ?dl5_0 hH0 ?_
           case cl5_0 => simp only [List.getElem?_toArray]; rfl
           case el5_0 => exact fun _ _ _ h => h
           case dl5_0 => refine Or.inl ⟨by rfl, ?_⟩; intro W hSw; (try dsimp only at hSw); go_simp; try with_reducible rfl
           simp only [Act.put, List.setIfInBounds_toArray, List.set_cons_zero, List.set_cons_succ]
           refine wpAnyH_take (i := 1) (oi := ?al5_1) (v := ?bl5_1) ?cl5_1 (by kernel_rfl) (by kernel_rfl) (by kernel_rfl) ?el5_1 ?dl5_1 hH0 ?_
           case cl5_1 => simp only [List.getElem?_toArray]; rfl
           case el5_1 => exact fun _ _ _ h => h
           case dl5_1 => refine Or.inl ⟨by rfl, ?_⟩; intro W hSw; (try dsimp only at hSw); go_simp; try with_reducible rfl
           simp only [Act.put, List.setIfInBounds_toArray, List.set_cons_zero, List.set_cons_succ]
           refine wpAnyH_take (i := 2) (oi := ?al5_2) (v := ?bl5_2) ?cl5_2 (by kernel_rfl) (by kernel_rfl) (by kernel_rfl) ?el5_2 ?dl5_2 hH0 ?_
           case cl5_2 => simp only [List.getElem?_toArray]; rfl
           case el5_2 => exact fun _ _ _ h => h
           case dl5_2 => refine Or.inl ⟨by rfl, ?_⟩; intro W hSw; (try dsimp only at hSw); go_simp; try with_reducible rfl
           simp only [Act.put, List.setIfInBounds_toArray, List.set_cons_zero, List.set_cons_succ]
           refine wpAnyH_take (i := 3) (oi := ?al5_3) (v := ?bl5_3) ?cl5_3 (by kernel_rfl) (by kernel_rfl) (by kernel_rfl) ?el5_3 ?dl5_3 hH0 ?_
           case cl5_3 => simp only [List.getElem?_toArray]; rfl
           case el5_3 => exact fun _ _ _ h => h
           case dl5_3 => refine Or.inl ⟨by rfl, ?_⟩; intro W hSw; (try dsimp only at hSw); go_simp; try with_reducible rfl
           simp only [Act.put, List.setIfInBounds_toArray, List.set_cons_zero, List.set_cons_succ]
           refine wpAnyH_take (i := 4) (oi := ?al5_4) (v := ?bl5_4) ?cl5_4 (by kernel_rfl) (by kernel_rfl) (by kernel_rfl) ?el5_4 ?dl5_4 hH0 ?_
           case cl5_4 => simp only [List.getElem?_toArray]; rfl
           case el5_4 => exact fun _ _ _ h => h
           case dl5_4 => refine Or.inl ⟨by rfl, ?_⟩; intro W hSw; (try dsimp only at hSw); go_simp; try with_reducible rfl
           simp only [Act.put, List.setIfInBounds_toArray, List.set_cons_zero, List.set_cons_succ]
           refine wpAnyH_take (i := 5) (oi := ?al5_5) (v := ?bl5_5) ?cl5_5 (by kernel_rfl) (by kernel_rfl) (by kernel_rfl) ?el5_5 ?dl5_5 hH0 ?_
           case cl5_5 => simp only [List.getElem?_toArray]; rfl
           case el5_5 => exact fun _ _ _ h => h
           case dl5_5 => refine Or.inl ⟨by rfl, ?_⟩; intro W hSw; (try dsimp only at hSw); go_simp; try with_reducible rfl
           simp only [Act.put, List.setIfInBounds_toArray, List.set_cons_zero, List.set_cons_succ]
           refine wpAnyH_take (i := 6) (oi := ?al5_6) (v := ?bl5_6) ?cl5_6 (by kernel_rfl) (by kernel_rfl) (by kernel_rfl) ?el5_6 ?dl5_6 hH0 ?_
           case cl5_6 => simp only [List.getElem?_toArray]; rfl
           case el5_6 => exact fun _ _ _ h => h
           case dl5_6 => refine Or.inl ⟨by rfl, ?_⟩; intro W hSw; (try dsimp only at hSw); go_simp; try with_reducible rfl
           simp only [Act.put, List.setIfInBounds_toArray, List.set_cons_zero, List.set_cons_succ]
           refine wpAnyH_take (i := 7) (oi := ?al5_7) (v := ?bl5_7) ?cl5_7 (by kernel_rfl) (by kernel_rfl) (by kernel_rfl) ?el5_7 ?dl5_7 hH0 ?_
           case cl5_7 => simp only [List.getElem?_toArray]; rfl
           case el5_7 => exact fun _ _ _ h => h
           case dl5_7 => refine Or.inl ⟨by rfl, ?_⟩; intro W hSw; (try dsimp only at hSw); go_simp; try with_reducible rfl
           simp only [Act.put, List.setIfInBounds_toArray, List.set_cons_zero, List.set_cons_succ]
           refine wpAnyH_take (i := 8) (oi := ?al5_8) (v := ?bl5_8) ?cl5_8 (by kernel_rfl) (by kernel_rfl) (by kernel_rfl) ?el5_8 ?dl5_8 hH0 ?_
           case cl5_8 => simp only [List.getElem?_toArray]; rfl
           case el5_8 => exact fun _ _ _ h => h
           case dl5_8 => refine Or.inl ⟨by rfl, ?_⟩; intro W hSw; (try dsimp only at hSw); go_simp; try with_reducible rfl
           simp only [Act.put, List.setIfInBounds_toArray, List.set_cons_zero, List.set_cons_succ]
           refine wpAnyH_take (i := 9) (oi := ?al5_9) (v := ?bl5_9) ?cl5_9 (by kernel_rfl) (by kernel_rfl) (by kernel_rfl) ?el5_9 ?dl5_9 hH0 ?_
           case cl5_9 => simp only [List.getElem?_toArray]; rfl
           case el5_9 => exact fun _ _ _ h => h
           case dl5_9 => refine Or.inl ⟨by rfl, ?_⟩; intro W hSw; (try dsimp only at hSw); go_simp; try with_reducible rfl
           simp only [Act.put, List.setIfInBounds_toArray, List.set_cons_zero, List.set_cons_succ]
           refine wpAnyH_take (i := 10) (oi := ?al5_10) (v := ?bl5_10) ?cl5_10 (by kernel_rfl) (by kernel_rfl) (by kernel_rfl) ?el5_10 ?dl5_10 hH0 ?_
           case cl5_10 => simp only [List.getElem?_toArray]; rfl
           case el5_10 => exact fun _ _ _ h => h
           case dl5_10 => refine Or.inl ⟨by rfl, ?_⟩; intro W hSw; (try dsimp only at hSw); go_simp; try with_reducible rfl
           simp only [Act.put, List.setIfInBounds_toArray, List.set_cons_zero, List.set_cons_succ]
           refine wpAnyH_take (i := 11) (oi := ?al5_11) (v := ?bl5_11) ?cl5_11 (by kernel_rfl) (by kernel_rfl) (by kernel_rfl) ?el5_11 ?dl5_11 hH0 ?_
           case cl5_11 => simp only [List.getElem?_toArray]; rfl
           case el5_11 => exact fun _ _ _ h => h
           case dl5_11 => refine Or.inl ⟨by rfl, ?_⟩; intro W hSw; (try dsimp only at hSw); go_simp; try with_reducible rfl
           simp only [Act.put, List.setIfInBounds_toArray, List.set_cons_zero, List.set_cons_succ]
           refine wpAnyH_take (i := 12) (oi := ?al5_12) (v := ?bl5_12) ?cl5_12 (by kernel_rfl) (by kernel_rfl) (by kernel_rfl) ?el5_12 ?dl5_12 hH0 ?_
           case cl5_12 => simp only [List.getElem?_toArray]; rfl
           case el5_12 => exact fun _ _ _ h => h
           case dl5_12 => refine Or.inl ⟨by rfl, ?_⟩; intro W hSw; (try dsimp only at hSw); go_simp; try with_reducible rfl
           simp only [Act.put, List.setIfInBounds_toArray, List.set_cons_zero, List.set_cons_succ]
           refine wpAnyH_take (i := 13) (oi := ?al5_13) (v := ?bl5_13) ?cl5_13 (by kernel_rfl) (by kernel_rfl) (by kernel_rfl) ?el5_13 ?dl5_13 hH0 ?_
           case cl5_13 => simp only [List.getElem?_toArray]; rfl
           case el5_13 => exact fun _ _ _ h => h
           case dl5_13 => refine Or.inl ⟨by rfl, ?_⟩; intro W hSw; (try dsimp only at hSw); go_simp; try with_reducible rfl
           simp only [Act.put, List.setIfInBounds_toArray, List.set_cons_zero, List.set_cons_succ]
           refine wpAnyH_take (i := 14) (oi := ?al5_14) (v := ?bl5_14) ?cl5_14 (by kernel_rfl) (by kernel_rfl) (by kernel_rfl) ?el5_14 ?dl5_14 hH0 ?_
           case cl5_14 => simp only [List.getElem?_toArray]; rfl
           case el5_14 => exact fun _ _ _ h => h
           case dl5_14 => refine Or.inl ⟨by rfl, ?_⟩; intro W hSw; (try dsimp only at hSw); go_simp; try with_reducible rfl
           simp only [Act.put, List.setIfInBounds_toArray, List.set_cons_zero, List.set_cons_succ]
           refine wpAnyH_take (i := 15) (oi := ?al5_15) (v := ?bl5_15) ?cl5_15 (by kernel_rfl) (by kernel_rfl) (by kernel_rfl) ?el5_15 ?dl5_15 hH0 ?_
           case cl5_15 => simp only [List.getElem?_toArray]; rfl
           case el5_15 => exact fun _ _ _ h => h
           case dl5_15 => refine Or.inl ⟨by rfl, ?_⟩; intro W hSw; (try dsimp only at hSw); go_simp; try with_reducible rfl
           simp only [Act.put, List.setIfInBounds_toArray, List.set_cons_zero, List.set_cons_succ]
           refine wpAnyH_take (i := 16) (oi := ?al5_16) (v := ?bl5_16) ?cl5_16 (by kernel_rfl) (by kernel_rfl) (by kernel_rfl) ?el5_16 ?dl5_16 hH0 ?_
           case cl5_16 => simp only [List.getElem?_toArray]; rfl
           case el5_16 => exact fun _ _ _ h => h
           case dl5_16 => refine Or.inl ⟨by rfl, ?_⟩; intro W hSw; (try dsimp only at hSw); go_simp; try with_reducible rfl
           simp only [Act.put, List.setIfInBounds_toArray, List.set_cons_zero, List.set_cons_succ]
           refine wpAnyH_take (i := 17) (oi := ?al5_17) (v := ?bl5_17) ?cl5_17 (by kernel_rfl) (by kernel_rfl) (by kernel_rfl) ?el5_17 ?dl5_17 hH0 ?_
           case cl5_17 => simp only [List.getElem?_toArray]; rfl
           case el5_17 => exact fun _ _ _ h => h
           case dl5_17 => refine Or.inl ⟨by rfl, ?_⟩; intro W hSw; (try dsimp only at hSw); go_simp; try with_reducible rfl
           simp only [Act.put, List.setIfInBounds_toArray, List.set_cons_zero, List.set_cons_succ]
           refine wpAnyH_take (i := 18) (oi := ?al5_18) (v := ?bl5_18) ?cl5_18 (by kernel_rfl) (by kernel_rfl) (by kernel_rfl) ?el5_18 ?dl5_18 hH0 ?_
           case cl5_18 => simp only [List.getElem?_toArray]; rfl
           case el5_18 => exact fun _ _ _ h => h
           case dl5_18 => refine Or.inl ⟨by rfl, ?_⟩; intro W hSw; (try dsimp only at hSw); go_simp; try with_reducible rfl
           simp only [Act.put, List.setIfInBounds_toArray, List.set_cons_zero, List.set_cons_succ]
           refine wpAnyH_take (i := 19) (oi := ?al5_19) (v := ?bl5_19) ?cl5_19 (by kernel_rfl) (by kernel_rfl) (by kernel_rfl) ?el5_19 ?dl5_19 hH0 ?_
           case cl5_19 => simp only [List.getElem?_toArray]; rfl
           case el5_19 => exact fun _ _ _ h => h
           case dl5_19 => refine Or.inl ⟨by rfl, ?_⟩; intro W hSw; (try dsimp only at hSw); go_simp; try with_reducible rfl
           simp only [Act.put, List.setIfInBounds_toArray, List.set_cons_zero, List.set_cons_succ]
           refine wpAnyH_take (i := 20) (oi := ?al5_20) (v := ?bl5_20) ?cl5_20 (by kernel_rfl) (by kernel_rfl) (by kernel_rfl) ?el5_20 ?dl5_20 hH0 ?_
           case cl5_20 => simp only [List.getElem?_toArray]; rfl
           case el5_20 => exact fun _ _ _ h => h
           case dl5_20 => refine Or.inl ⟨by rfl, ?_⟩; intro W hSw; (try dsimp only at hSw); go_simp; try with_reducible rfl
           simp only [Act.put, List.setIfInBounds_toArray, List.set_cons_zero, List.set_cons_succ]
           refine wpAnyH_take (i := 21) (oi := ?al5_21) (v := ?bl5_21) ?cl5_21 (by kernel_rfl) (by kernel_rfl) (by kernel_rfl) ?el5_21 ?dl5_21 hH0 ?_
           case cl5_21 => simp only [List.getElem?_toArray]; rfl
           case el5_21 => exact fun _ _ _ h => h
           case dl5_21 => refine Or.inl ⟨by rfl, ?_⟩; intro W hSw; (try dsimp only at hSw); go_simp; try with_reducible rfl
           simp only [Act.put, List.setIfInBounds_toArray, List.set_cons_zero, List.set_cons_succ]
           refine wpAnyH_take (i := 22) (oi := ?al5_22) (v := ?bl5_22) ?cl5_22 (by kernel_rfl) (by kernel_rfl) (by kernel_rfl) ?el5_22 ?dl5_22 hH0 ?_
           case cl5_22 => simp only [List.getElem?_toArray]; rfl
           case el5_22 => exact fun _ _ _ h => h
           case dl5_22 => refine Or.inl ⟨by rfl, ?_⟩; intro W hSw; (try dsimp only at hSw); go_simp; try with_reducible rfl
           simp only [Act.put, List.setIfInBounds_toArray, List.set_cons_zero, List.set_cons_succ]
           refine wpAnyH_take (i := 23) (oi := ?al5_23) (v := ?bl5_23) ?cl5_23 (by kernel_rfl) (by kernel_rfl) (by kernel_rfl) ?el5_23 ?dl5_23 hH0 ?_
           case cl5_23 => simp only [List.getElem?_toArray]; rfl
           case el5_23 => exact fun _ _ _ h => h
           case dl5_23 => refine Or.inl ⟨by rfl, ?_⟩; intro W hSw; (try dsimp only at hSw); go_simp; try with_reducible rfl
           simp only [Act.put, List.setIfInBounds_toArray, List.set_cons_zero, List.set_cons_succ]
           refine wpAnyH_take (i := 24) (oi := ?al5_24) (v := ?bl5_24) ?cl5_24 (by kernel_rfl) (by kernel_rfl) (by kernel_rfl) ?el5_24 ?dl5_24 hH0 ?_
           case cl5_24 => simp only [List.getElem?_toArray]; rfl
           case el5_24 => exact fun _ _ _ h => h
           case dl5_24 => refine Or.inl ⟨by rfl, ?_⟩; intro W hSw; (try dsimp only at hSw); go_simp; try with_reducible rfl
           simp only [Act.put, List.setIfInBounds_toArray, List.set_cons_zero, List.set_cons_succ]
           refine wpAnyH_take (i := 25) (oi := ?al5_25) (v := ?bl5_25) ?cl5_25 (by kernel_rfl) (by kernel_rfl) (by kernel_rfl) ?el5_25 ?dl5_25 hH0 ?_
           case cl5_25 => simp only [List.getElem?_toArray]; rfl
           case el5_25 => exact fun _ _ _ h => h
           case dl5_25 => refine Or.inl ⟨by rfl, ?_⟩; intro W hSw; (try dsimp only at hSw); go_simp; try with_reducible rfl
           simp only [Act.put, List.setIfInBounds_toArray, List.set_cons_zero, List.set_cons_succ]
           refine wpAnyH_take (i := 26) (oi := ?al5_26) (v := ?bl5_26) ?cl5_26 (by kernel_rfl) (by kernel_rfl) (by kernel_rfl) ?el5_26 ?dl5_26 hH0 ?_
           case cl5_26 => simp only [List.getElem?_toArray]; rfl
           case el5_26 => exact fun _ _ _ h => h
           case dl5_26 => refine Or.inl ⟨by rfl, ?_⟩; intro W hSw; (try dsimp only at hSw); go_simp; try with_reducible rfl
           simp only [Act.put, List.setIfInBounds_toArray, List.set_cons_zero, List.set_cons_succ]
           refine wpAnyH_take (i := 27) (oi := ?al5_27) (v := ?bl5_27) ?cl5_27 (by kernel_rfl) (by kernel_rfl) (by kernel_rfl) ?el5_27 ?dl5_27 hH0 ?_
           case cl5_27 => simp only [List.getElem?_toArray]; rfl
           case el5_27 => exact fun _ _ _ h => h
           case dl5_27 => refine Or.inl ⟨by rfl, ?_⟩; intro W hSw; (try dsimp only at hSw); go_simp; try with_reducible rfl
           simp only [Act.put, List.setIfInBounds_toArray, List.set_cons_zero, List.set_cons_succ]
           refine wpAnyH_take (i := 28) (oi := ?al5_28) (v := ?bl5_28) ?cl5_28 (by kernel_rfl) (by kernel_rfl) (by kernel_rfl) ?el5_28 ?dl5_28 hH0 ?_
           case cl5_28 => simp only [List.getElem?_toArray]; rfl
           case el5_28 => exact fun _ _ _ h => h
           case dl5_28 => refine Or.inl ⟨by rfl, ?_⟩; intro W hSw; (try dsimp only at hSw); go_simp; try with_reducible rfl
           simp only [Act.put, List.setIfInBounds_toArray, List.set_cons_zero, List.set_cons_succ]
           refine wpAnyH_take (i := 29) (oi := ?al5_29) (v := ?bl5_29) ?cl5_29 (by kernel_rfl) (by kernel_rfl) (by kernel_rfl) ?el5_29 ?dl5_29 hH0 ?_
           case cl5_29 => simp only [List.getElem?_toArray]; rfl
           case el5_29 => exact fun _ _ _ h => h
           case dl5_29 => refine Or.inl ⟨by rfl, ?_⟩; intro W hSw; (try dsimp only at hSw); go_simp; try with_reducible rfl
           simp only [Act.put, List.setIfInBounds_toArray, List.set_cons_zero, List.set_cons_succ]
           refine wpAnyH_take (i := 30) (oi := ?al5_30) (v := ?bl5_30) ?cl5_30 (by kernel_rfl) (by kernel_rfl) (by kernel_rfl) ?el5_30 ?dl5_30 hH0 ?_
           case cl5_30 => simp only [List.getElem?_toArray]; rfl
           case el5_30 => exact fun _ _ _ h => h
           case dl5_30 => refine Or.inl ⟨by rfl, ?_⟩; intro W hSw; (try dsimp only at hSw); go_simp; try with_reducible rfl
           simp only [Act.put, List.setIfInBounds_toArray, List.set_cons_zero, List.set_cons_succ]
           refine wpAnyH_take (i := 31) (oi := ?al5_31) (v := ?bl5_31) ?cl5_31 (by kernel_rfl) (by kernel_rfl) (by kernel_rfl) ?el5_31 ?dl5_31 hH0 ?_
           case cl5_31 => simp only [List.getElem?_toArray]; rfl
           case el5_31 => exact fun _ _ _ h => h
           case dl5_31 => refine Or.inl ⟨by rfl, ?_⟩; intro W hSw; (try dsimp only at hSw); go_simp; try with_reducible rfl
           simp only [Act.put, List.setIfInBounds_toArray, List.set_cons_zero, List.set_cons_succ]
           refine wpAnyH_take (i := 32) (oi := ?al5_32) (v := ?bl5_32) ?cl5_32 (by kernel_rfl) (by kernel_rfl) (by kernel_rfl) ?el5_32 ?dl5_32 hH0 ?_
           case cl5_32 => simp only [List.getElem?_toArray]; rfl
           case el5_32 => exact fun _ _ _ h => h
           case dl5_32 => refine Or.inl ⟨by rfl, ?_⟩; intro W hSw; (try dsimp only at hSw); go_simp; try with_reducible rfl
           simp only [Act.put, List.setIfInBounds_toArray, List.set_cons_zero, List.set_cons_succ]
           refine wpAnyH_take (i := 33) (oi := ?al5_33) (v := ?bl5_33) ?cl5_33 (by kernel_rfl) (by kernel_rfl) (by kernel_rfl) ?el5_33 ?dl5_33 hH0 ?_
           case cl5_33 => simp only [List.getElem?_toArray]; rfl
           case el5_33 => exact fun _ _ _ h => h
           case dl5_33 => refine Or.inl ⟨by rfl, ?_⟩; intro W hSw; (try dsimp only at hSw); go_simp; try with_reducible rfl
           simp only [Act.put, List.setIfInBounds_toArray, List.set_cons_zero, List.set_cons_succ]
           refine wpAnyH_take (i := 34) (oi := ?al5_34) (v := ?bl5_34) ?cl5_34 (by kernel_rfl) (by kernel_rfl) (by kernel_rfl) ?el5_34 ?dl5_34 hH0 ?_
           case cl5_34 => simp only [List.getElem?_toArray]; rfl
           case el5_34 => exact fun _ _ _ h => h
           case dl5_34 => refine Or.inl ⟨by rfl, ?_⟩; intro W hSw; (try dsimp only at hSw); go_simp; try with_reducible rfl
           simp only [Act.put, List.setIfInBounds_toArray, List.set_cons_zero, List.set_cons_succ]
           refine wpAnyH_take (i := 35) (oi := ?al5_35) (v := ?bl5_35) ?cl5_35 (by kernel_rfl) (by kernel_rfl) (by kernel_rfl) ?el5_35 ?dl5_35 hH0 ?_
           case cl5_35 => simp only [List.getElem?_toArray]; rfl
           case el5_35 => exact fun _ _ _ h => h
           case dl5_35 => refine Or.inl ⟨by rfl, ?_⟩; intro W hSw; (try dsimp only at hSw); go_simp; try with_reducible rfl
           simp only [Act.put, List.setIfInBounds_toArray, List.set_cons_zero, List.set_cons_succ]
           refine wpAnyH_take (i := 36) (oi := ?al5_36) (v := ?bl5_36) ?cl5_36 (by kernel_rfl) (by kernel_rfl) (by kernel_rfl) ?el5_36 ?dl5_36 hH0 ?_
           case cl5_36 => simp only [List.getElem?_toArray]; rfl
           case el5_36 => exact fun _ _ _ h => h
           case dl5_36 => refine Or.inl ⟨by rfl, ?_⟩; intro W hSw; (try dsimp only at hSw); go_simp; try with_reducible rfl
           simp only [Act.put, List.setIfInBounds_toArray, List.set_cons_zero, List.set_cons_succ]
           refine wpAnyH_take (i := 37) (oi := ?al5_37) (v := ?bl5_37) ?cl5_37 (by kernel_rfl) (by kernel_rfl) (by kernel_rfl) ?el5_37 ?dl5_37 hH0 ?_
           case cl5_37 => simp only [List.getElem?_toArray]; rfl
           case el5_37 => exact fun _ _ _ h => h
           case dl5_37 => refine Or.inl ⟨by rfl, ?_⟩; intro W hSw; (try dsimp only at hSw); go_simp; try with_reducible rfl
           simp only [Act.put, List.setIfInBounds_toArray, List.set_cons_zero, List.set_cons_succ]
           refine wpAnyH_take (i := 38) (oi := ?al5_38) (v := ?bl5_38) ?cl5_38 (by kernel_rfl) (by kernel_rfl) (by kernel_rfl) ?el5_38 ?dl5_38 hH0 ?_
           case cl5_38 => simp only [List.getElem?_toArray]; rfl
           case el5_38 => exact fun _ _ _ h => h
           case dl5_38 => refine Or.inl ⟨by rfl, ?_⟩; intro W hSw; (try dsimp only at hSw); go_simp; try with_reducible rfl
           simp only [Act.put, List.setIfInBounds_toArray, List.set_cons_zero, List.set_cons_succ]
           refine wpAnyH_take (i := 39) (oi := ?al5_39) (v := ?bl5_39) ?cl5_39 (by kernel_rfl) (by kernel_rfl) (by kernel_rfl) ?el5_39 ?dl5_39 hH0 ?_
           case cl5_39 => simp only [List.getElem?_toArray]; rfl
           case el5_39 => exact fun _ _ _ h => h
           case dl5_39 => refine Or.inl ⟨by rfl, ?_⟩; intro W hSw; (try dsimp only at hSw); go_simp; try with_reducible rfl
           simp only [Act.put, List.setIfInBounds_toArray, List.set_cons_zero, List.set_cons_succ]
           refine wpAnyH_take (i := 40) (oi := ?al5_40) (v := ?bl5_40) ?cl5_40 (by kernel_rfl) (by kernel_rfl) (by kernel_rfl) ?el5_40 ?dl5_40 hH0 ?_
           case cl5_40 => simp only [List.getElem?_toArray]; rfl
           case el5_40 => exact fun _ _ _ h => h
           case dl5_40 => refine Or.inl ⟨by rfl, ?_⟩; intro W hSw; (try dsimp only at hSw); go_simp; try with_reducible rfl
           simp only [Act.put, List.setIfInBounds_toArray, List.set_cons_zero, List.set_cons_succ]
           refine wpAnyH_take (i := 41) (oi := ?al5_41) (v := ?bl5_41) ?cl5_41 (by kernel_rfl) (by kernel_rfl) (by kernel_rfl) ?el5_41 ?dl5_41 hH0 ?_
           case cl5_41 => simp only [List.getElem?_toArray]; rfl
           case el5_41 => exact fun _ _ _ h => h
           case dl5_41 => refine Or.inl ⟨by rfl, ?_⟩; intro W hSw; (try dsimp only at hSw); go_simp; try with_reducible rfl
           simp only [Act.put, List.setIfInBounds_toArray, List.set_cons_zero, List.set_cons_succ]
           refine wpAnyH_take (i := 42) (oi := ?al5_42) (v := ?bl5_42) ?cl5_42 (by kernel_rfl) (by kernel_rfl) (by kernel_rfl) ?el5_42 ?dl5_42 hH0 ?_
           case cl5_42 => simp only [List.getElem?_toArray]; rfl
           case el5_42 => exact fun _ _ _ h => h
           case dl5_42 => refine Or.inl ⟨by rfl, ?_⟩; intro W hSw; (try dsimp only at hSw); go_simp; try with_reducible rfl
           simp only [Act.put, List.setIfInBounds_toArray, List.set_cons_zero, List.set_cons_succ]
           refine wpAnyH_take (i := 43) (oi := ?al5_43) (v := ?bl5_43) ?cl5_43 (by kernel_rfl) (by kernel_rfl) (by kernel_rfl) ?el5_43 ?dl5_43 hH0 ?_
           case cl5_43 => simp only [List.getElem?_toArray]; rfl
           case el5_43 => exact fun _ _ _ h => h
           case dl5_43 => refine Or.inl ⟨by rfl, ?_⟩; intro W hSw; (try dsimp only at hSw); go_simp; try with_reducible rfl
           simp only [Act.put, List.setIfInBounds_toArray, List.set_cons_zero, List.set_cons_succ]
           refine wpAnyH_take (i := 44) (oi := ?al5_44) (v := ?bl5_44) ?cl5_44 (by kernel_rfl) (by kernel_rfl) (by kernel_rfl) ?el5_44 ?dl5_44 hH0 ?_
           case cl5_44 => simp only [List.getElem?_toArray]; rfl
           case el5_44 => exact fun _ _ _ h => h
           case dl5_44 => refine Or.inl ⟨by rfl, ?_⟩; intro W hSw; (try dsimp only at hSw); go_simp; try with_reducible rfl
           simp only [Act.put, List.setIfInBounds_toArray, List.set_cons_zero, List.set_cons_succ]
           refine wpAnyH_take (i := 45) (oi := ?al5_45) (v := ?bl5_45) ?cl5_45 (by kernel_rfl) (by kernel_rfl) (by kernel_rfl) ?el5_45 ?dl5_45 hH0 ?_
           case cl5_45 => simp only [List.getElem?_toArray]; rfl
           case el5_45 => exact fun _ _ _ h => h
           case dl5_45 => refine Or.inl ⟨by rfl, ?_⟩; intro W hSw; (try dsimp only at hSw); go_simp; try with_reducible rfl
           simp only [Act.put, List.setIfInBounds_toArray, List.set_cons_zero, List.set_cons_succ]
           refine wpAnyH_take (i := 46) (oi := ?al5_46) (v := ?bl5_46) ?cl5_46 (by kernel_rfl) (by kernel_rfl) (by kernel_rfl) ?el5_46 ?dl5_46 hH0 ?_
           case cl5_46 => simp only [List.getElem?_toArray]; rfl
           case el5_46 => exact fun _ _ _ h => h
           case dl5_46 => refine Or.inl ⟨by rfl, ?_⟩; intro W hSw; (try dsimp only at hSw); go_simp; try with_reducible rfl
           simp only [Act.put, List.setIfInBounds_toArray, List.set_cons_zero, List.set_cons_succ]
           refine wpAnyH_take (i := 47) (oi := ?al5_47) (v := ?bl5_47) ?cl5_47 (by kernel_rfl) (by kernel_rfl) (by kernel_rfl) ?el5_47 ?dl5_47 hH0 ?_
           case cl5_47 => simp only [List.getElem?_toArray]; rfl
           case el5_47 => exact fun _ _ _ h => h
           case dl5_47 => refine Or.inl ⟨by rfl, ?_⟩; intro W hSw; (try dsimp only at hSw); go_simp; try with_reducible rfl
           simp only [Act.put, List.setIfInBounds_toArray, List.set_cons_zero, List.set_cons_succ]
           refine wpAnyH_take (i := 48) (oi := ?al5_48) (v := ?bl5_48) ?cl5_48 (by kernel_rfl) (by kernel_rfl) (by kernel_rfl) ?el5_48 ?dl5_48 hH0 ?_
           case cl5_48 => simp only [List.getElem?_toArray]; rfl
           case el5_48 => exact fun _ _ _ h => h
           case dl5_48 => refine Or.inl ⟨by rfl, ?_⟩; intro W hSw; (try dsimp only at hSw); go_simp; try with_reducible rfl
           simp only [Act.put, List.setIfInBounds_toArray, List.set_cons_zero, List.set_cons_succ]
           refine wpAnyH_take (i := 49) (oi := ?al5_49) (v := undef) ?cl5_49 (by kernel_rfl) (by kernel_rfl) (by kernel_rfl) ?el5_49 ?dl5_49 hH0 ?_
           case cl5_49 => simp only [List.getElem?_toArray]; rfl
           case el5_49 => exact fun _ _ _ h => h
           case dl5_49 => exact Or.inr ⟨by rfl, rfl⟩
           simp only [Act.put, List.setIfInBounds_toArray, List.set_cons_zero, List.set_cons_succ]
           refine wpAnyH_take (i := 50) (oi := ?al5_50) (v := undef) ?cl5_50 (by kernel_rfl) (by kernel_rfl) (by kernel_rfl) ?el5_50 ?dl5_50 hH0 ?_
           case cl5_50 => simp only [List.getElem?_toArray]; rfl
           case el5_50 => exact fun _ _ _ h => h
           case dl5_50 => exact Or.inr ⟨by rfl, rfl⟩
           simp only [Act.put, List.setIfInBounds_toArray, List.set_cons_zero, List.set_cons_succ]
           refine wpAnyH_take (i := 51) (oi := ?al5_51) (v := undef) ?cl5_51 (by kernel_rfl) (by kernel_rfl) (by kernel_rfl) ?el5_51 ?dl5_51 hH0 ?_
           case cl5_51 => simp only [List.getElem?_toArray]; rfl
           case el5_51 => exact fun _ _ _ h => h
           case dl5_51 => exact Or.inr ⟨by rfl, rfl⟩
           simp only [Act.put, List.setIfInBounds_toArray, List.set_cons_zero, List.set_cons_succ]
           refine wpAnyH_take (i := 52) (oi := ?al5_52) (v := undef) ?cl5_52 (by kernel_rfl) (by kernel_rfl) (by kernel_rfl) ?el5_52 ?dl5_52 hH0 ?_
           case cl5_52 => simp only [List.getElem?_toArray]; rfl
           case el5_52 => exact fun _ _ _ h => h
           case dl5_52 => exact Or.inr ⟨by rfl, rfl⟩
           simp only [Act.put, List.setIfInBounds_toArray, List.set_cons_zero, List.set_cons_succ]
           refine wpAnyH_take (i := 53) (oi := ?al5_53) (v := undef) ?cl5_53 (by kernel_rfl) (by kernel_rfl) (by kernel_rfl) ?el5_53 ?dl5_53 hH0 ?_
           case cl5_53 => simp only [List.getElem?_toArray]; rfl
           case el5_53 => exact fun _ _ _ h => h
           case dl5_53 => exact Or.inr ⟨by rfl, rfl⟩
           simp only [Act.put, List.setIfInBounds_toArray, List.set_cons_zero, List.set_cons_succ]
           refine wpAnyH_take (i := 54) (oi := ?al5_54) (v := undef) ?cl5_54 (by kernel_rfl) (by kernel_rfl) (by kernel_rfl) ?el5_54 ?dl5_54 hH0 ?_
           case cl5_54 => simp only [List.getElem?_toArray]; rfl
           case el5_54 => exact fun _ _ _ h => h
           case dl5_54 => exact Or.inr ⟨by rfl, rfl⟩
           simp only [Act.put, List.setIfInBounds_toArray, List.set_cons_zero, List.set_cons_succ]
           refine wpAnyH_take (i := 55) (oi := ?al5_55) (v := undef) ?cl5_55 (by kernel_rfl) (by kernel_rfl) (by kernel_rfl) ?el5_55 ?dl5_55 hH0 ?_
           case cl5_55 => simp only [List.getElem?_toArray]; rfl
           case el5_55 => exact fun _ _ _ h => h
           case dl5_55 => exact Or.inr ⟨by rfl, rfl⟩
           simp only [Act.put, List.setIfInBounds_toArray, List.set_cons_zero, List.set_cons_succ]
           refine wpAnyH_take (i := 56) (oi := ?al5_56) (v := undef) ?cl5_56 (by kernel_rfl) (by kernel_rfl) (by kernel_rfl) ?el5_56 ?dl5_56 hH0 ?_
           case cl5_56 => simp only [List.getElem?_toArray]; rfl
           case el5_56 => exact fun _ _ _ h => h
           case dl5_56 => exact Or.inr ⟨by rfl, rfl⟩
           simp only [Act.put, List.setIfInBounds_toArray, List.set_cons_zero, List.set_cons_succ]
           refine wpAnyH_take (i := 57) (oi := ?al5_57) (v := undef) ?cl5_57 (by kernel_rfl) (by kernel_rfl) (by kernel_rfl) ?el5_57 ?dl5_57 hH0 ?_
           case cl5_57 => simp only [List.getElem?_toArray]; rfl
           case el5_57 => exact fun _ _ _ h => h
           case dl5_57 => exact Or.inr ⟨by rfl, rfl⟩
           simp only [Act.put, List.setIfInBounds_toArray, List.set_cons_zero, List.set_cons_succ]
           refine wpAnyH_take (i := 58) (oi := ?al5_58) (v := undef) ?cl5_58 (by kernel_rfl) (by kernel_rfl) (by kernel_rfl) ?el5_58 ?dl5_58 hH0 ?_
           case cl5_58 => simp only [List.getElem?_toArray]; rfl
           case el5_58 => exact fun _ _ _ h => h
           case dl5_58 => exact Or.inr ⟨by rfl, rfl⟩
           simp only [Act.put, List.setIfInBounds_toArray, List.set_cons_zero, List.set_cons_succ]
           refine wpAnyH_take (i := 59) (oi := ?al5_59) (v := undef) ?cl5_59 (by kernel_rfl) (by kernel_rfl) (by kernel_rfl) ?el5_59 ?dl5_59 hH0 ?_
           case cl5_59 => simp only [List.getElem?_toArray]; rfl
           case el5_59 => exact fun _ _ _ h => h
           case dl5_59 => exact Or.inr ⟨by rfl, rfl⟩
           simp only [Act.put, List.setIfInBounds_toArray, List.set_cons_zero, List.set_cons_succ]
           refine wpAnyH_take (i := 60) (oi := ?al5_60) (v := undef) ?cl5_60 (by kernel_rfl) (by kernel_rfl) (by kernel_rfl) ?el5_60 ?dl5_60 hH0 ?_
           case cl5_60 => simp only [List.getElem?_toArray]; rfl
           case el5_60 => exact fun _ _ _ h => h
           case dl5_60 => exact Or.inr ⟨by rfl, rfl⟩
           simp only [Act.put, List.setIfInBounds_toArray, List.set_cons_zero, List.set_cons_succ]
           refine wpAnyH_take (i := 61) (oi := ?al5_61) (v := undef) ?cl5_61 (by kernel_rfl) (by kernel_rfl) (by kernel_rfl) ?el5_61 ?dl5_61 hH0 ?_
           case cl5_61 => simp only [List.getElem?_toArray]; rfl
           case el5_61 => exact fun _ _ _ h => h
           case dl5_61 => exact Or.inr ⟨by rfl, rfl⟩
           simp only [Act.put, List.setIfInBounds_toArray, List.set_cons_zero, List.set_cons_succ]
           refine wpAnyH_take (i := 62) (oi := ?al5_62) (v := undef) ?cl5_62 (by kernel_rfl) (by kernel_rfl) (by kernel_rfl) ?el5_62 ?dl5_62 hH0 ?_
           case cl5_62 => simp only [List.getElem?_toArray]; rfl
           case el5_62 => exact fun _ _ _ h => h
           case dl5_62 => exact Or.inr ⟨by rfl, rfl⟩
           simp only [Act.put, List.setIfInBounds_toArray, List.set_cons_zero, List.set_cons_succ]
           refine wpAnyH_take (i := 63) (oi := ?al5_63) (v := undef) ?cl5_63 (by kernel_rfl) (by kernel_rfl) (by kernel_rfl) ?el5_63 ?dl5_63 hH0 ?_
           case cl5_63 => simp only [List.getElem?_toArray]; rfl
           case el5_63 => exact fun _ _ _ h => h
           case dl5_63 => exact Or.inr ⟨by rfl, rfl⟩
           simp only [Act.put, List.setIfInBounds_toArray, List.set_cons_zero, List.set_cons_succ]
           refine wpAnyH_take (i := 64) (oi := ?al5_64) (v := undef) ?cl5_64 (by kernel_rfl) (by kernel_rfl) (by kernel_rfl) ?el5_64 ?dl5_64 hH0 ?_
           case cl5_64 => simp only [List.getElem?_toArray]; rfl
           case el5_64 => exact fun _ _ _ h => h
           case dl5_64 => exact Or.inr ⟨by rfl, rfl⟩
           simp only [Act.put, List.setIfInBounds_toArray, List.set_cons_zero, List.set_cons_succ]
           refine wpAnyH_take (i := 65) (oi := ?al5_65) (v := ?bl5_65) ?cl5_65 (by kernel_rfl) (by kernel_rfl) (by kernel_rfl) ?el5_65 ?dl5_65 hH0 ?_
           case cl5_65 => simp only [List.getElem?_toArray]; rfl
           case el5_65 => exact fun _ _ _ h => h
           case dl5_65 => refine Or.inl ⟨by rfl, ?_⟩; intro W hSw; (try dsimp only at hSw); go_simp; try with_reducible rfl
           simp only [Act.put, List.setIfInBounds_toArray, List.set_cons_zero, List.set_cons_succ]
           refine wpAnyH_done (by kernel_rfl) ?_ _
           go_wp2
           all_goals go_meet
           all_goals
            case rel => exact .inl ⟨rfl, by omega, rfl⟩
          ·have D5 : decide (274877906944 < bi) = false := decide_eq_false d5
           by_cases hk0 : k = 0
           ·have gk : decide ((0 : Int) < (k : Int)) = false := by rw [decide_eq_false_iff_not]; omega
            have gk2 : decide (0 < k) = false := by rw [decide_eq_false_iff_not]; omega
            have hp0 : pr = 0 := by rw [← hpr, hk0]; unfold prevI atI; rw [if_pos (by omega)]
            have HP0 := Lib.hid hp0
            clear hp0 hk0 hpr
            refine region_begin (S := fun X' => X'.cell? ⟨w.heap.size, 0, none⟩ = some (.int .i64 V.epoch) ∧ X'.cell? ⟨w.heap.size, 1, none⟩ = some (.slice (some ⟨b1, o1, none⟩) V.chain.length k1) ∧ X'.cell? ⟨w.heap.size, 2, none⟩ = some (.slice (some ⟨b2, o2, none⟩) V.since.length k2) ∧ X'.cell? ⟨w.heap.size, 3, none⟩ = some (.slice (some ⟨b3, o3, none⟩) V.boot.length k3) ∧ X'.cell? ⟨b1, o1 + k, none⟩ = some (.int .i64 ci) ∧ X'.cell? ⟨b2, o2 + k, none⟩ = some (.int .i64 si) ∧ X'.cell? ⟨b3, o3 + k, none⟩ = some (.int .i64 bi)) 66 rfl (by kernel_rfl) ⟨y0, y1, y2, y3, hc1, hc2, hc3⟩ (fun hH0 => ?_)
            refine wpAnyH_take (i := 0) (oi := ?az_0) (v := ?bz_0) ?cz_0 (by kernel_rfl) (by kernel_rfl) (by kernel_rfl) ?ez_0 ?dz_0 hH0 ?_
            case cz_0 => simp only [List.getElem?_toArray]; rfl
            case ez_0 => exact fun _ _ _ h => h
            case dz_0 => refine Or.inl ⟨by rfl, ?_⟩; intro W hSw; (try dsimp only at hSw); go_simp; try with_reducible rfl
            simp only [Act.put, List.setIfInBounds_toArray, List.set_cons_zero, List.set_cons_succ]
            refine wpAnyH_take (i := 1) (oi := ?az_1) (v := ?bz_1) ?cz_1 (by kernel_rfl) (by kernel_rfl) (by kernel_rfl) ?ez_1 ?dz_1 hH0 ?_
            case cz_1 => simp only [List.getElem?_toArray]; rfl
            case ez_1 => exact fun _ _ _ h => h
            case dz_1 => refine Or.inl ⟨by rfl, ?_⟩; intro W hSw; (try dsimp only at hSw); go_simp; try with_reducible rfl
            simp only [Act.put, List.setIfInBounds_toArray, List.set_cons_zero, List.set_cons_succ]
            refine wpAnyH_take (i := 2) (oi := ?az_2) (v := ?bz_2) ?cz_2 (by kernel_rfl) (by kernel_rfl) (by kernel_rfl) ?ez_2 ?dz_2 hH0 ?_
            case cz_2 => simp only [List.getElem?_toArray]; rfl
            case ez_2 => exact fun _ _ _ h => h
            case dz_2 => refine Or.inl ⟨by rfl, ?_⟩; intro W hSw; (try dsimp only at hSw); go_simp; try with_reducible rfl
            simp only [Act.put, List.setIfInBounds_toArray, List.set_cons_zero, List.set_cons_succ]
            refine wpAnyH_take (i := 3) (oi := ?az_3) (v := ?bz_3) ?cz_3 (by kernel_rfl) (by kernel_rfl) (by kernel_rfl) ?ez_3 ?dz_3 hH0 ?_
            case cz_3 => simp only [List.getElem?_toArray]; rfl
            case ez_3 => exact fun _ _ _ h => h
            case dz_3 => refine Or.inl ⟨by rfl, ?_⟩; intro W hSw; (try dsimp only at hSw); go_simp; try with_reducible rfl
            simp only [Act.put, List.setIfInBounds_toArray, List.set_cons_zero, List.set_cons_succ]
            refine wpAnyH_take (i := 4) (oi := ?az_4) (v := ?bz_4) ?cz_4 (by kernel_rfl) (by kernel_rfl) (by kernel_rfl) ?ez_4 ?dz_4 hH0 ?_
            case cz_4 => simp only [List.getElem?_toArray]; rfl
            case ez_4 => exact fun _ _ _ h => h
            case dz_4 => refine Or.inl ⟨by rfl, ?_⟩; intro W hSw; (try dsimp only at hSw); go_simp; try with_reducible rfl
            simp only [Act.put, List.setIfInBounds_toArray, List.set_cons_zero, List.set_cons_succ]
            refine wpAnyH_take (i := 5) (oi := ?az_5) (v := ?bz_5) ?cz_5 (by kernel_rfl) (by kernel_rfl) (by kernel_rfl) ?ez_5 ?dz_5 hH0 ?_
            case cz_5 => simp only [List.getElem?_toArray]; rfl
            case ez_5 => exact fun _ _ _ h => h
            case dz_5 => refine Or.inl ⟨by rfl, ?_⟩; intro W hSw; (try dsimp only at hSw); go_simp; try with_reducible rfl
            simp only [Act.put, List.setIfInBounds_toArray, List.set_cons_zero, List.set_cons_succ]
            refine wpAnyH_take (i := 6) (oi := ?az_6) (v := ?bz_6) ?cz_6 (by kernel_rfl) (by kernel_rfl) (by kernel_rfl) ?ez_6 ?dz_6 hH0 ?_
            case cz_6 => simp only [List.getElem?_toArray]; rfl
            case ez_6 => exact fun _ _ _ h => h
            case dz_6 => refine Or.inl ⟨by rfl, ?_⟩; intro W hSw; (try dsimp only at hSw); go_simp; try with_reducible rfl
            simp only [Act.put, List.setIfInBounds_toArray, List.set_cons_zero, List.set_cons_succ]
            refine wpAnyH_take (i := 7) (oi := ?az_7) (v := ?bz_7) ?cz_7 (by kernel_rfl) (by kernel_rfl) (by kernel_rfl) ?ez_7 ?dz_7 hH0 ?_
            case cz_7 => simp only [List.getElem?_toArray]; rfl
            case ez_7 => exact fun _ _ _ h => h
            case dz_7 => refine Or.inl ⟨by rfl, ?_⟩; intro W hSw; (try dsimp only at hSw); go_simp; try with_reducible rfl
            simp only [Act.put, List.setIfInBounds_toArray, List.set_cons_zero, List.set_cons_succ]
            refine wpAnyH_take (i := 8) (oi := ?az_8) (v := ?bz_8) ?cz_8 (by kernel_rfl) (by kernel_rfl) (by kernel_rfl) ?ez_8 ?dz_8 hH0 ?_
            case cz_8 => simp only [List.getElem?_toArray]; rfl
            case ez_8 => exact fun _ _ _ h => h
            case dz_8 => refine Or.inl ⟨by rfl, ?_⟩; intro W hSw; (try dsimp only at hSw); go_simp; try with_reducible rfl
            simp only [Act.put, List.setIfInBounds_toArray, List.set_cons_zero, List.set_cons_succ]
            refine wpAnyH_take (i := 9) (oi := ?az_9) (v := ?bz_9) ?cz_9 (by kernel_rfl) (by kernel_rfl) (by kernel_rfl) ?ez_9 ?dz_9 hH0 ?_
            case cz_9 => simp only [List.getElem?_toArray]; rfl
            case ez_9 => exact fun _ _ _ h => h
            case dz_9 => refine Or.inl ⟨by rfl, ?_⟩; intro W hSw; (try dsimp only at hSw); go_simp; try with_reducible rfl
            simp only [Act.put, List.setIfInBounds_toArray, List.set_cons_zero, List.set_cons_succ]
            refine wpAnyH_take (i := 10) (oi := ?az_10) (v := ?bz_10) ?cz_10 (by kernel_rfl) (by kernel_rfl) (by kernel_rfl) ?ez_10 ?dz_10 hH0 ?_
            case cz_10 => simp only [List.getElem?_toArray]; rfl
            case ez_10 => exact fun _ _ _ h => h
            case dz_10 => refine Or.inl ⟨by rfl, ?_⟩; intro W hSw; (try dsimp only at hSw); go_simp; try with_reducible rfl
            simp only [Act.put, List.setIfInBounds_toArray, List.set_cons_zero, List.set_cons_succ]
            refine wpAnyH_take (i := 11) (oi := ?az_11) (v := ?bz_11) ?cz_11 (by kernel_rfl) (by kernel_rfl) (by kernel_rfl) ?ez_11 ?dz_11 hH0 ?_
            case cz_11 => simp only [List.getElem?_toArray]; rfl
            case ez_11 => exact fun _ _ _ h => h
            case dz_11 => refine Or.inl ⟨by rfl, ?_⟩; intro W hSw; (try dsimp only at hSw); go_simp; try with_reducible rfl
            simp only [Act.put, List.setIfInBounds_toArray, List.set_cons_zero, List.set_cons_succ]
            refine wpAnyH_take (i := 12) (oi := ?az_12) (v := ?bz_12) ?cz_12 (by kernel_rfl) (by kernel_rfl) (by kernel_rfl) ?ez_12 ?dz_12 hH0 ?_
            case cz_12 => simp only [List.getElem?_toArray]; rfl
            case ez_12 => exact fun _ _ _ h => h
            case dz_12 => refine Or.inl ⟨by rfl, ?_⟩; intro W hSw; (try dsimp only at hSw); go_simp; try with_reducible rfl
            simp only [Act.put, List.setIfInBounds_toArray, List.set_cons_zero, List.set_cons_succ]
            refine wpAnyH_take (i := 13) (oi := ?az_13) (v := ?bz_13) ?cz_13 (by kernel_rfl) (by kernel_rfl) (by kernel_rfl) ?ez_13 ?dz_13 hH0 ?_
            case cz_13 => simp only [List.getElem?_toArray]; rfl
            case ez_13 => exact fun _ _ _ h => h
            case dz_13 => refine Or.inl ⟨by rfl, ?_⟩; intro W hSw; (try dsimp only at hSw); go_simp; try with_reducible rfl
            simp only [Act.put, List.setIfInBounds_toArray, List.set_cons_zero, List.set_cons_succ]
            refine wpAnyH_take (i := 14) (oi := ?az_14) (v := ?bz_14) ?cz_14 (by kernel_rfl) (by kernel_rfl) (by kernel_rfl) ?ez_14 ?dz_14 hH0 ?_
            case cz_14 => simp only [List.getElem?_toArray]; rfl
            case ez_14 => exact fun _ _ _ h => h
            case dz_14 => refine Or.inl ⟨by rfl, ?_⟩; intro W hSw; (try dsimp only at hSw); go_simp; try with_reducible rfl
            simp only [Act.put, List.setIfInBounds_toArray, List.set_cons_zero, List.set_cons_succ]
            refine wpAnyH_take (i := 15) (oi := ?az_15) (v := ?bz_15) ?cz_15 (by kernel_rfl) (by kernel_rfl) (by kernel_rfl) ?ez_15 ?dz_15 hH0 ?_
            case cz_15 => simp only [List.getElem?_toArray]; rfl
            case ez_15 => exact fun _ _ _ h => h
            case dz_15 => refine Or.inl ⟨by rfl, ?_⟩; intro W hSw; (try dsimp only at hSw); go_simp; try with_reducible rfl
            simp only [Act.put, List.setIfInBounds_toArray, List.set_cons_zero, List.set_cons_succ]
            refine wpAnyH_take (i := 16) (oi := ?az_16) (v := ?bz_16) ?cz_16 (by kernel_rfl) (by kernel_rfl) (by kernel_rfl) ?ez_16 ?dz_16 hH0 ?_
            case cz_16 => simp only [List.getElem?_toArray]; rfl
            case ez_16 => exact fun _ _ _ h => h
            case dz_16 => refine Or.inl ⟨by rfl, ?_⟩; intro W hSw; (try dsimp only at hSw); go_simp; try with_reducible rfl
            simp only [Act.put, List.setIfInBounds_toArray, List.set_cons_zero, List.set_cons_succ]
            refine wpAnyH_take (i := 17) (oi := ?az_17) (v := ?bz_17) ?cz_17 (by kernel_rfl) (by kernel_rfl) (by kernel_rfl) ?ez_17 ?dz_17 hH0 ?_
            case cz_17 => simp only [List.getElem?_toArray]; rfl
            case ez_17 => exact fun _ _ _ h => h
            case dz_17 => refine Or.inl ⟨by rfl, ?_⟩; intro W hSw; (try dsimp only at hSw); go_simp; try with_reducible rfl
            simp only [Act.put, List.setIfInBounds_toArray, List.set_cons_zero, List.set_cons_succ]
            refine wpAnyH_take (i := 18) (oi := ?az_18) (v := ?bz_18) ?cz_18 (by kernel_rfl) (by kernel_rfl) (by kernel_rfl) ?ez_18 ?dz_18 hH0 ?_
            case cz_18 => simp only [List.getElem?_toArray]; rfl
            case ez_18 => exact fun _ _ _ h => h
            case dz_18 => refine Or.inl ⟨by rfl, ?_⟩; intro W hSw; (try dsimp only at hSw); go_simp; try with_reducible rfl
            simp only [Act.put, List.setIfInBounds_toArray, List.set_cons_zero, List.set_cons_succ]
            refine wpAnyH_take (i := 19) (oi := ?az_19) (v := ?bz_19) ?cz_19 (by kernel_rfl) (by kernel_rfl) (by kernel_rfl) ?ez_19 ?dz_19 hH0 ?_
            case cz_19 => simp only [List.getElem?_toArray]; rfl
            case ez_19 => exact fun _ _ _ h => h
            case dz_19 => refine Or.inl ⟨by rfl, ?_⟩; intro W hSw; (try dsimp only at hSw); go_simp; try with_reducible rfl
            simp only [Act.put, List.setIfInBounds_toArray, List.set_cons_zero, List.set_cons_succ]
            refine wpAnyH_take (i := 20) (oi := ?az_20) (v := ?bz_20) ?cz_20 (by kernel_rfl) (by kernel_rfl) (by kernel_rfl) ?ez_20 ?dz_20 hH0 ?_
            case cz_20 => simp only [List.getElem?_toArray]; rfl
            case ez_20 => exact fun _ _ _ h => h
            case dz_20 => refine Or.inl ⟨by rfl, ?_⟩; intro W hSw; (try dsimp only at hSw); go_simp; try with_reducible rfl
            simp only [Act.put, List.setIfInBounds_toArray, List.set_cons_zero, List.set_cons_succ]
            refine wpAnyH_take (i := 21) (oi := ?az_21) (v := ?bz_21) ?cz_21 (by kernel_rfl) (by kernel_rfl) (by kernel_rfl) ?ez_21 ?dz_21 hH0 ?_
            case cz_21 => simp only [List.getElem?_toArray]; rfl
            case ez_21 => exact fun _ _ _ h => h
            case dz_21 => refine Or.inl ⟨by rfl, ?_⟩; intro W hSw; (try dsimp only at hSw); go_simp; try with_reducible rfl
            simp only [Act.put, List.setIfInBounds_toArray, List.set_cons_zero, List.set_cons_succ]
            refine wpAnyH_take (i := 22) (oi := ?az_22) (v := ?bz_22) ?cz_22 (by kernel_rfl) (by kernel_rfl) (by kernel_rfl) ?ez_22 ?dz_22 hH0 ?_
            case cz_22 => simp only [List.getElem?_toArray]; rfl
            case ez_22 => exact fun _ _ _ h => h
            case dz_22 => refine Or.inl ⟨by rfl, ?_⟩; intro W hSw; (try dsimp only at hSw); go_simp; try with_reducible rfl
            simp only [Act.put, List.setIfInBounds_toArray, List.set_cons_zero, List.set_cons_succ]
            refine wpAnyH_take (i := 23) (oi := ?az_23) (v := ?bz_23) ?cz_23 (by kernel_rfl) (by kernel_rfl) (by kernel_rfl) ?ez_23 ?dz_23 hH0 ?_
            case cz_23 => simp only [List.getElem?_toArray]; rfl
            case ez_23 => exact fun _ _ _ h => h
            case dz_23 => refine Or.inl ⟨by rfl, ?_⟩; intro W hSw; (try dsimp only at hSw); go_simp; try with_reducible rfl
            simp only [Act.put, List.setIfInBounds_toArray, List.set_cons_zero, List.set_cons_succ]
            refine wpAnyH_take (i := 24) (oi := ?az_24) (v := ?bz_24) ?cz_24 (by kernel_rfl) (by kernel_rfl) (by kernel_rfl) ?ez_24 ?dz_24 hH0 ?_
            case cz_24 => simp only [List.getElem?_toArray]; rfl
            case ez_24 => exact fun _ _ _ h => h
            case dz_24 => refine Or.inl ⟨by rfl, ?_⟩; intro W hSw; (try dsimp only at hSw); go_simp; try with_reducible rfl
            simp only [Act.put, List.setIfInBounds_toArray, List.set_cons_zero, List.set_cons_succ]
            refine wpAnyH_take (i := 25) (oi := ?az_25) (v := ?bz_25) ?cz_25 (by kernel_rfl) (by kernel_rfl) (by kernel_rfl) ?ez_25 ?dz_25 hH0 ?_
            case cz_25 => simp only [List.getElem?_toArray]; rfl
            case ez_25 => exact fun _ _ _ h => h
            case dz_25 => refine Or.inl ⟨by rfl, ?_⟩; intro W hSw; (try dsimp only at hSw); go_simp; try with_reducible rfl
            simp only [Act.put, List.setIfInBounds_toArray, List.set_cons_zero, List.set_cons_succ]
            refine wpAnyH_take (i := 26) (oi := ?az_26) (v := ?bz_26) ?cz_26 (by kernel_rfl) (by kernel_rfl) (by kernel_rfl) ?ez_26 ?dz_26 hH0 ?_
            case cz_26 => simp only [List.getElem?_toArray]; rfl
            case ez_26 => exact fun _ _ _ h => h
            case dz_26 => refine Or.inl ⟨by rfl, ?_⟩; intro W hSw; (try dsimp only at hSw); go_simp; try with_reducible rfl
            simp only [Act.put, List.setIfInBounds_toArray, List.set_cons_zero, List.set_cons_succ]
            refine wpAnyH_take (i := 27) (oi := ?az_27) (v := ?bz_27) ?cz_27 (by kernel_rfl) (by kernel_rfl) (by kernel_rfl) ?ez_27 ?dz_27 hH0 ?_
            case cz_27 => simp only [List.getElem?_toArray]; rfl
            case ez_27 => exact fun _ _ _ h => h
            case dz_27 => refine Or.inl ⟨by rfl, ?_⟩; intro W hSw; (try dsimp only at hSw); go_simp; try with_reducible rfl
            simp only [Act.put, List.setIfInBounds_toArray, List.set_cons_zero, List.set_cons_succ]
            refine wpAnyH_take (i := 28) (oi := ?az_28) (v := ?bz_28) ?cz_28 (by kernel_rfl) (by kernel_rfl) (by kernel_rfl) ?ez_28 ?dz_28 hH0 ?_
            case cz_28 => simp only [List.getElem?_toArray]; rfl
            case ez_28 => exact fun _ _ _ h => h
            case dz_28 => refine Or.inl ⟨by rfl, ?_⟩; intro W hSw; (try dsimp only at hSw); go_simp; try with_reducible rfl
            simp only [Act.put, List.setIfInBounds_toArray, List.set_cons_zero, List.set_cons_succ]
            refine wpAnyH_take (i := 29) (oi := ?az_29) (v := ?bz_29) ?cz_29 (by kernel_rfl) (by kernel_rfl) (by kernel_rfl) ?ez_29 ?dz_29 hH0 ?_
            case cz_29 => simp only [List.getElem?_toArray]; rfl
            case ez_29 => exact fun _ _ _ h => h
            case dz_29 => refine Or.inl ⟨by rfl, ?_⟩; intro W hSw; (try dsimp only at hSw); go_simp; try with_reducible rfl
            simp only [Act.put, List.setIfInBounds_toArray, List.set_cons_zero, List.set_cons_succ]
            refine wpAnyH_take (i := 30) (oi := ?az_30) (v := ?bz_30) ?cz_30 (by kernel_rfl) (by kernel_rfl) (by kernel_rfl) ?ez_30 ?dz_30 hH0 ?_
            case cz_30 => simp only [List.getElem?_toArray]; rfl
            case ez_30 => exact fun _ _ _ h => h
            case dz_30 => refine Or.inl ⟨by rfl, ?_⟩; intro W hSw; (try dsimp only at hSw); go_simp; try with_reducible rfl
            simp only [Act.put, List.setIfInBounds_toArray, List.set_cons_zero, List.set_cons_succ]
            refine wpAnyH_take (i := 31) (oi := ?az_31) (v := ?bz_31) ?cz_31 (by kernel_rfl) (by kernel_rfl) (by kernel_rfl) ?ez_31 ?dz_31 hH0 ?_
            case cz_31 => simp only [List.getElem?_toArray]; rfl
            case ez_31 => exact fun _ _ _ h => h
            case dz_31 => refine Or.inl ⟨by rfl, ?_⟩; intro W hSw; (try dsimp only at hSw); go_simp; try with_reducible rfl
            simp only [Act.put, List.setIfInBounds_toArray, List.set_cons_zero, List.set_cons_succ]
            refine wpAnyH_take (i := 32) (oi := ?az_32) (v := ?bz_32) ?cz_32 (by kernel_rfl) (by kernel_rfl) (by kernel_rfl) ?ez_32 ?dz_32 hH0 ?_
            case cz_32 => simp only [List.getElem?_toArray]; rfl
            case ez_32 => exact fun _ _ _ h => h
            case dz_32 => refine Or.inl ⟨by rfl, ?_⟩; intro W hSw; (try dsimp only at hSw); go_simp; try with_reducible rfl
            simp only [Act.put, List.setIfInBounds_toArray, List.set_cons_zero, List.set_cons_succ]
            refine wpAnyH_take (i := 33) (oi := ?az_33) (v := ?bz_33) ?cz_33 (by kernel_rfl) (by kernel_rfl) (by kernel_rfl) ?ez_33 ?dz_33 hH0 ?_
            case cz_33 => simp only [List.getElem?_toArray]; rfl
            case ez_33 => exact fun _ _ _ h => h
            case dz_33 => refine Or.inl ⟨by rfl, ?_⟩; intro W hSw; (try dsimp only at hSw); go_simp; try with_reducible rfl
            simp only [Act.put, List.setIfInBounds_toArray, List.set_cons_zero, List.set_cons_succ]
            refine wpAnyH_take (i := 34) (oi := ?az_34) (v := ?bz_34) ?cz_34 (by kernel_rfl) (by kernel_rfl) (by kernel_rfl) ?ez_34 ?dz_34 hH0 ?_
            case cz_34 => simp only [List.getElem?_toArray]; rfl
            case ez_34 => exact fun _ _ _ h => h
            case dz_34 => refine Or.inl ⟨by rfl, ?_⟩; intro W hSw; (try dsimp only at hSw); go_simp; try with_reducible rfl
            simp only [Act.put, List.setIfInBounds_toArray, List.set_cons_zero, List.set_cons_succ]
            refine wpAnyH_take (i := 35) (oi := ?az_35) (v := ?bz_35) ?cz_35 (by kernel_rfl) (by kernel_rfl) (by kernel_rfl) ?ez_35 ?dz_35 hH0 ?_
            case cz_35 => simp only [List.getElem?_toArray]; rfl
            case ez_35 => exact fun _ _ _ h => h
            case dz_35 => refine Or.inl ⟨by rfl, ?_⟩; intro W hSw; (try dsimp only at hSw); go_simp; try with_reducible rfl
            simp only [Act.put, List.setIfInBounds_toArray, List.set_cons_zero, List.set_cons_succ]
            refine wpAnyH_take (i := 36) (oi := ?az_36) (v := ?bz_36) ?cz_36 (by kernel_rfl) (by kernel_rfl) (by kernel_rfl) ?ez_36 ?dz_36 hH0 ?_
            case cz_36 => simp only [List.getElem?_toArray]; rfl
            case ez_36 => exact fun _ _ _ h => h
            case dz_36 => refine Or.inl ⟨by rfl, ?_⟩; intro W hSw; (try dsimp only at hSw); go_simp; try with_reducible rfl
            simp only [Act.put, List.setIfInBounds_toArray, List.set_cons_zero, List.set_cons_succ]
            refine wpAnyH_take (i := 37) (oi := ?az_37) (v := ?bz_37) ?cz_37 (by kernel_rfl) (by kernel_rfl) (by kernel_rfl) ?ez_37 ?dz_37 hH0 ?_
            case cz_37 => simp only [List.getElem?_toArray]; rfl
            case ez_37 => exact fun _ _ _ h => h
            case dz_37 => refine Or.inl ⟨by rfl, ?_⟩; intro W hSw; (try dsimp only at hSw); go_simp; try with_reducible rfl
            simp only [Act.put, List.setIfInBounds_toArray, List.set_cons_zero, List.set_cons_succ]
            refine wpAnyH_take (i := 38) (oi := ?az_38) (v := ?bz_38) ?cz_38 (by kernel_rfl) (by kernel_rfl) (by kernel_rfl) ?ez_38 ?dz_38 hH0 ?_
            case cz_38 => simp only [List.getElem?_toArray]; rfl
            case ez_38 => exact fun _ _ _ h => h
            case dz_38 => refine Or.inl ⟨by rfl, ?_⟩; intro W hSw; (try dsimp only at hSw); go_simp; try with_reducible rfl
            simp only [Act.put, List.setIfInBounds_toArray, List.set_cons_zero, List.set_cons_succ]
            refine wpAnyH_take (i := 39) (oi := ?az_39) (v := ?bz_39) ?cz_39 (by kernel_rfl) (by kernel_rfl) (by kernel_rfl) ?ez_39 ?dz_39 hH0 ?_
            case cz_39 => simp only [List.getElem?_toArray]; rfl
            case ez_39 => exact fun _ _ _ h => h
            case dz_39 => refine Or.inl ⟨by rfl, ?_⟩; intro W hSw; (try dsimp only at hSw); go_simp; try with_reducible rfl
            simp only [Act.put, List.setIfInBounds_toArray, List.set_cons_zero, List.set_cons_succ]
            refine wpAnyH_take (i := 40) (oi := ?az_40) (v := ?bz_40) ?cz_40 (by kernel_rfl) (by kernel_rfl) (by kernel_rfl) ?ez_40 ?dz_40 hH0 ?_
            case cz_40 => simp only [List.getElem?_toArray]; rfl
            case ez_40 => exact fun _ _ _ h => h
            case dz_40 => refine Or.inl ⟨by rfl, ?_⟩; intro W hSw; (try dsimp only at hSw); go_simp; try with_reducible rfl
            simp only [Act.put, List.setIfInBounds_toArray, List.set_cons_zero, List.set_cons_succ]
            refine wpAnyH_take (i := 41) (oi := ?az_41) (v := ?bz_41) ?cz_41 (by kernel_rfl) (by kernel_rfl) (by kernel_rfl) ?ez_41 ?dz_41 hH0 ?_
            case cz_41 => simp only [List.getElem?_toArray]; rfl
            case ez_41 => exact fun _ _ _ h => h
            case dz_41 => refine Or.inl ⟨by rfl, ?_⟩; intro W hSw; (try dsimp only at hSw); go_simp; try with_reducible rfl
            simp only [Act.put, List.setIfInBounds_toArray, List.set_cons_zero, List.set_cons_succ]
            refine wpAnyH_take (i := 42) (oi := ?az_42) (v := ?bz_42) ?cz_42 (by kernel_rfl) (by kernel_rfl) (by kernel_rfl) ?ez_42 ?dz_42 hH0 ?_
            case cz_42 => simp only [List.getElem?_toArray]; rfl
            case ez_42 => exact fun _ _ _ h => h
            case dz_42 => refine Or.inl ⟨by rfl, ?_⟩; intro W hSw; (try dsimp only at hSw); go_simp; try with_reducible rfl
            simp only [Act.put, List.setIfInBounds_toArray, List.set_cons_zero, List.set_cons_succ]
            refine wpAnyH_take (i := 43) (oi := ?az_43) (v := ?bz_43) ?cz_43 (by kernel_rfl) (by kernel_rfl) (by kernel_rfl) ?ez_43 ?dz_43 hH0 ?_
            case cz_43 => simp only [List.getElem?_toArray]; rfl
            case ez_43 => exact fun _ _ _ h => h
            case dz_43 => refine Or.inl ⟨by rfl, ?_⟩; intro W hSw; (try dsimp only at hSw); go_simp; try with_reducible rfl
            simp only [Act.put, List.setIfInBounds_toArray, List.set_cons_zero, List.set_cons_succ]
            refine wpAnyH_take (i := 44) (oi := ?az_44) (v := ?bz_44) ?cz_44 (by kernel_rfl) (by kernel_rfl) (by kernel_rfl) ?ez_44 ?dz_44 hH0 ?_
            case cz_44 => simp only [List.getElem?_toArray]; rfl
            case ez_44 => exact fun _ _ _ h => h
            case dz_44 => refine Or.inl ⟨by rfl, ?_⟩; intro W hSw; (try dsimp only at hSw); go_simp; try with_reducible rfl
            simp only [Act.put, List.setIfInBounds_toArray, List.set_cons_zero, List.set_cons_succ]
            refine wpAnyH_take (i := 45) (oi := ?az_45) (v := ?bz_45) ?cz_45 (by kernel_rfl) (by kernel_rfl) (by kernel_rfl) ?ez_45 ?dz_45 hH0 ?_
            case cz_45 => simp only [List.getElem?_toArray]; rfl
            case ez_45 => exact fun _ _ _ h => h
            case dz_45 => refine Or.inl ⟨by rfl, ?_⟩; intro W hSw; (try dsimp only at hSw); go_simp; try with_reducible rfl
            simp only [Act.put, List.setIfInBounds_toArray, List.set_cons_zero, List.set_cons_succ]
            refine wpAnyH_take (i := 46) (oi := ?az_46) (v := ?bz_46) ?cz_46 (by kernel_rfl) (by kernel_rfl) (by kernel_rfl) ?ez_46 ?dz_46 hH0 ?_
            case cz_46 => simp only [List.getElem?_toArray]; rfl
            case ez_46 => exact fun _ _ _ h => h
            case dz_46 => refine Or.inl ⟨by rfl, ?_⟩; intro W hSw; (try dsimp only at hSw); go_simp; try with_reducible rfl
            simp only [Act.put, List.setIfInBounds_toArray, List.set_cons_zero, List.set_cons_succ]
            refine wpAnyH_take (i := 47) (oi := ?az_47) (v := ?bz_47) ?cz_47 (by kernel_rfl) (by kernel_rfl) (by kernel_rfl) ?ez_47 ?dz_47 hH0 ?_
            case cz_47 => simp only [List.getElem?_toArray]; rfl
            case ez_47 => exact fun _ _ _ h => h
            case dz_47 => refine Or.inl ⟨by rfl, ?_⟩; intro W hSw; (try dsimp only at hSw); go_simp; try with_reducible rfl
            simp only [Act.put, List.setIfInBounds_toArray, List.set_cons_zero, List.set_cons_succ]
            refine wpAnyH_take (i := 48) (oi := ?az_48) (v := ?bz_48) ?cz_48 (by kernel_rfl) (by kernel_rfl) (by kernel_rfl) ?ez_48 ?dz_48 hH0 ?_
            case cz_48 => simp only [List.getElem?_toArray]; rfl
            case ez_48 => exact fun _ _ _ h => h
            case dz_48 => refine Or.inl ⟨by rfl, ?_⟩; intro W hSw; (try dsimp only at hSw); go_simp; try with_reducible rfl
            simp only [Act.put, List.setIfInBounds_toArray, List.set_cons_zero, List.set_cons_succ]
            refine wpAnyH_take (i := 49) (oi := ?az_49) (v := ?bz_49) ?cz_49 (by kernel_rfl) (by kernel_rfl) (by kernel_rfl) ?ez_49 ?dz_49 hH0 ?_
            case cz_49 => simp only [List.getElem?_toArray]; rfl
            case ez_49 => exact fun _ _ _ h => h
            case dz_49 => refine Or.inl ⟨by rfl, ?_⟩; intro W hSw; (try dsimp only at hSw); go_simp; try with_reducible rfl
            simp only [Act.put, List.setIfInBounds_toArray, List.set_cons_zero, List.set_cons_succ]
            refine wpAnyH_take (i := 50) (oi := ?az_50) (v := ?bz_50) ?cz_50 (by kernel_rfl) (by kernel_rfl) (by kernel_rfl) ?ez_50 ?dz_50 hH0 ?_
            case cz_50 => simp only [List.getElem?_toArray]; rfl
            case ez_50 => exact fun _ _ _ h => h
            case dz_50 => refine Or.inl ⟨by rfl, ?_⟩; intro W hSw; (try dsimp only at hSw); go_simp; try with_reducible rfl
            simp only [Act.put, List.setIfInBounds_toArray, List.set_cons_zero, List.set_cons_succ]
            refine wpAnyH_take (i := 51) (oi := ?az_51) (v := ?bz_51) ?cz_51 (by kernel_rfl) (by kernel_rfl) (by kernel_rfl) ?ez_51 ?dz_51 hH0 ?_
            case cz_51 => simp only [List.getElem?_toArray]; rfl
            case ez_51 => exact fun _ _ _ h => h
            case dz_51 => refine Or.inl ⟨by rfl, ?_⟩; intro W hSw; (try dsimp only at hSw); go_simp; try with_reducible rfl
            simp only [Act.put, List.setIfInBounds_toArray, List.set_cons_zero, List.set_cons_succ]
            refine wpAnyH_take (i := 52) (oi := ?az_52) (v := undef) ?cz_52 (by kernel_rfl) (by kernel_rfl) (by kernel_rfl) ?ez_52 ?dz_52 hH0 ?_
            case cz_52 => simp only [List.getElem?_toArray]; rfl
            case ez_52 => exact fun _ _ _ h => h
            case dz_52 => exact Or.inr ⟨by rfl, rfl⟩
            simp only [Act.put, List.setIfInBounds_toArray, List.set_cons_zero, List.set_cons_succ]
            refine wpAnyH_take (i := 53) (oi := ?az_53) (v := undef) ?cz_53 (by kernel_rfl) (by kernel_rfl) (by kernel_rfl) ?ez_53 ?dz_53 hH0 ?_
            case cz_53 => simp only [List.getElem?_toArray]; rfl
            case ez_53 => exact fun _ _ _ h => h
            case dz_53 => exact Or.inr ⟨by rfl, rfl⟩
            simp only [Act.put, List.setIfInBounds_toArray, List.set_cons_zero, List.set_cons_succ]
            refine wpAnyH_take (i := 54) (oi := ?az_54) (v := undef) ?cz_54 (by kernel_rfl) (by kernel_rfl) (by kernel_rfl) ?ez_54 ?dz_54 hH0 ?_
            case cz_54 => simp only [List.getElem?_toArray]; rfl
            case ez_54 => exact fun _ _ _ h => h
            case dz_54 => exact Or.inr ⟨by rfl, rfl⟩
            simp only [Act.put, List.setIfInBounds_toArray, List.set_cons_zero, List.set_cons_succ]
            refine wpAnyH_take (i := 55) (oi := ?az_55) (v := undef) ?cz_55 (by kernel_rfl) (by kernel_rfl) (by kernel_rfl) ?ez_55 ?dz_55 hH0 ?_
            case cz_55 => simp only [List.getElem?_toArray]; rfl
            case ez_55 => exact fun _ _ _ h => h
            case dz_55 => exact Or.inr ⟨by rfl, rfl⟩
            simp only [Act.put, List.setIfInBounds_toArray, List.set_cons_zero, List.set_cons_succ]
            refine wpAnyH_take (i := 56) (oi := ?az_56) (v := undef) ?cz_56 (by kernel_rfl) (by kernel_rfl) (by kernel_rfl) ?ez_56 ?dz_56 hH0 ?_
            case cz_56 => simp only [List.getElem?_toArray]; rfl
            case ez_56 => exact fun _ _ _ h => h
            case dz_56 => exact Or.inr ⟨by rfl, rfl⟩
            simp only [Act.put, List.setIfInBounds_toArray, List.set_cons_zero, List.set_cons_succ]
            refine wpAnyH_take (i := 57) (oi := ?az_57) (v := undef) ?cz_57 (by kernel_rfl) (by kernel_rfl) (by kernel_rfl) ?ez_57 ?dz_57 hH0 ?_
            case cz_57 => simp only [List.getElem?_toArray]; rfl
            case ez_57 => exact fun _ _ _ h => h
            case dz_57 => exact Or.inr ⟨by rfl, rfl⟩
            simp only [Act.put, List.setIfInBounds_toArray, List.set_cons_zero, List.set_cons_succ]
            refine wpAnyH_take (i := 58) (oi := ?az_58) (v := undef) ?cz_58 (by kernel_rfl) (by kernel_rfl) (by kernel_rfl) ?ez_58 ?dz_58 hH0 ?_
            case cz_58 => simp only [List.getElem?_toArray]; rfl
            case ez_58 => exact fun _ _ _ h => h
            case dz_58 => exact Or.inr ⟨by rfl, rfl⟩
            simp only [Act.put, List.setIfInBounds_toArray, List.set_cons_zero, List.set_cons_succ]
            refine wpAnyH_take (i := 59) (oi := ?az_59) (v := undef) ?cz_59 (by kernel_rfl) (by kernel_rfl) (by kernel_rfl) ?ez_59 ?dz_59 hH0 ?_
            case cz_59 => simp only [List.getElem?_toArray]; rfl
            case ez_59 => exact fun _ _ _ h => h
            case dz_59 => exact Or.inr ⟨by rfl, rfl⟩
            simp only [Act.put, List.setIfInBounds_toArray, List.set_cons_zero, List.set_cons_succ]
            refine wpAnyH_take (i := 60) (oi := ?az_60) (v := undef) ?cz_60 (by kernel_rfl) (by kernel_rfl) (by kernel_rfl) ?ez_60 ?dz_60 hH0 ?_
            case cz_60 => simp only [List.getElem?_toArray]; rfl
            case ez_60 => exact fun _ _ _ h => h
            case dz_60 => exact Or.inr ⟨by rfl, rfl⟩
            simp only [Act.put, List.setIfInBounds_toArray, List.set_cons_zero, List.set_cons_succ]
            refine wpAnyH_take (i := 61) (oi := ?az_61) (v := undef) ?cz_61 (by kernel_rfl) (by kernel_rfl) (by kernel_rfl) ?ez_61 ?dz_61 hH0 ?_
            case cz_61 => simp only [List.getElem?_toArray]; rfl
            case ez_61 => exact fun _ _ _ h => h
            case dz_61 => exact Or.inr ⟨by rfl, rfl⟩
            simp only [Act.put, List.setIfInBounds_toArray, List.set_cons_zero, List.set_cons_succ]
            refine wpAnyH_take (i := 62) (oi := ?az_62) (v := undef) ?cz_62 (by kernel_rfl) (by kernel_rfl) (by kernel_rfl) ?ez_62 ?dz_62 hH0 ?_
            case cz_62 => simp only [List.getElem?_toArray]; rfl
            case ez_62 => exact fun _ _ _ h => h
            case dz_62 => exact Or.inr ⟨by rfl, rfl⟩
            simp only [Act.put, List.setIfInBounds_toArray, List.set_cons_zero, List.set_cons_succ]
            refine wpAnyH_take (i := 63) (oi := ?az_63) (v := undef) ?cz_63 (by kernel_rfl) (by kernel_rfl) (by kernel_rfl) ?ez_63 ?dz_63 hH0 ?_
            case cz_63 => simp only [List.getElem?_toArray]; rfl
            case ez_63 => exact fun _ _ _ h => h
            case dz_63 => exact Or.inr ⟨by rfl, rfl⟩
            simp only [Act.put, List.setIfInBounds_toArray, List.set_cons_zero, List.set_cons_succ]
            refine wpAnyH_take (i := 64) (oi := ?az_64) (v := ?bz_64) ?cz_64 (by kernel_rfl) (by kernel_rfl) (by kernel_rfl) ?ez_64 ?dz_64 hH0 ?_
            case cz_64 => simp only [List.getElem?_toArray]; rfl
            case ez_64 => exact fun _ _ _ h => h
            case dz_64 => refine Or.inl ⟨by rfl, ?_⟩; intro W hSw; (try dsimp only at hSw); go_simp; try with_reducible rfl
            simp only [Act.put, List.setIfInBounds_toArray, List.set_cons_zero, List.set_cons_succ]
            refine wpAnyH_take (i := 65) (oi := ?az_65) (v := ?bz_65) ?cz_65 (by kernel_rfl) (by kernel_rfl) (by kernel_rfl) ?ez_65 ?dz_65 hH0 ?_
            case cz_65 => simp only [List.getElem?_toArray]; rfl
            case ez_65 => exact fun _ _ _ h => h
            case dz_65 => refine Or.inl ⟨by rfl, ?_⟩; intro W hSw; (try dsimp only at hSw); go_simp; try with_reducible rfl
            simp only [Act.put, List.setIfInBounds_toArray, List.set_cons_zero, List.set_cons_succ]
            refine wpAnyH_done (by kernel_rfl) ?_ _
            go_wp2
            all_goals go_meet
            all_goals
             case rel => exact .inr ⟨rfl, by have := HP0.out; omega, rfl⟩
           ·have gk : decide ((0 : Int) < (k : Int)) = true := by rw [decide_eq_true_eq]; omega
            have gk2 : decide (0 < k) = true := by rw [decide_eq_true_eq]; omega
            have gk3 : decide (k = 0) = false := by rw [decide_eq_false_iff_not]; exact hk0
            obtain ⟨m, hm⟩ : ∃ m, k = m + 1 := ⟨k - 1, by omega⟩
            have hpm : m < V.since.length := by omega
            have hk1 : (k : Int) - 1 = (m : Int) := by omega
            have i8 : (0 : Int) ≤ (m : Int) := by omega
            have gwm : IntKind.i64.wrap (m : Int) = (m : Int) := IntWalk.i64_in _ (by omega)
            have i9 : (m : Int) < (V.since.length : Int) := by omega
            obtain ⟨b2', o2', q2', he2', _, _, hcp⟩ := (H2.out.keep bw hB).get m hpm
            injection he2' with e1 e2 e3
            injection e1 with e1
            injection e1 with e1 e4 _
            subst e1 e4
            clear e2 e3
            rw [hm, prevI_succ, getD_lt hpm] at hpr
            rw [hpr] at hcp
            clear hpr hk0
            have HM := Lib.hid hm
            clear hm
            by_cases d6 : si < pr
            ·have D6 : decide (si < pr) = true := decide_eq_true d6
             refine region_begin (S := fun X' => X'.cell? ⟨w.heap.size, 0, none⟩ = some (.int .i64 V.epoch) ∧ X'.cell? ⟨w.heap.size, 1, none⟩ = some (.slice (some ⟨b1, o1, none⟩) V.chain.length k1) ∧ X'.cell? ⟨w.heap.size, 2, none⟩ = some (.slice (some ⟨b2, o2, none⟩) V.since.length k2) ∧ X'.cell? ⟨w.heap.size, 3, none⟩ = some (.slice (some ⟨b3, o3, none⟩) V.boot.length k3) ∧ X'.cell? ⟨b1, o1 + k, none⟩ = some (.int .i64 ci) ∧ X'.cell? ⟨b2, o2 + k, none⟩ = some (.int .i64 si) ∧ X'.cell? ⟨b3, o3 + k, none⟩ = some (.int .i64 bi) ∧ X'.cell? ⟨b2, o2 + m, none⟩ = some (.int .i64 pr)) 66 rfl (by kernel_rfl) ⟨y0, y1, y2, y3, hc1, hc2, hc3, hcp⟩ (fun hH0 => ?_)
             refine wpAnyH_take (i := 0) (oi := ?ap_0) (v := ?bp_0) ?cp_0 (by kernel_rfl) (by kernel_rfl) (by kernel_rfl) ?ep_0 ?dp_0 hH0 ?_
             case cp_0 => simp only [List.getElem?_toArray]; rfl
             case ep_0 => exact fun _ _ _ h => h
             case dp_0 => refine Or.inl ⟨by rfl, ?_⟩; intro W hSw; (try dsimp only at hSw); go_simp; try with_reducible rfl
             simp only [Act.put, List.setIfInBounds_toArray, List.set_cons_zero, List.set_cons_succ]
             refine wpAnyH_take (i := 1) (oi := ?ap_1) (v := ?bp_1) ?cp_1 (by kernel_rfl) (by kernel_rfl) (by kernel_rfl) ?ep_1 ?dp_1 hH0 ?_
             case cp_1 => simp only [List.getElem?_toArray]; rfl
             case ep_1 => exact fun _ _ _ h => h
             case dp_1 => refine Or.inl ⟨by rfl, ?_⟩; intro W hSw; (try dsimp only at hSw); go_simp; try with_reducible rfl
             simp only [Act.put, List.setIfInBounds_toArray, List.set_cons_zero, List.set_cons_succ]
             refine wpAnyH_take (i := 2) (oi := ?ap_2) (v := ?bp_2) ?cp_2 (by kernel_rfl) (by kernel_rfl) (by kernel_rfl) ?ep_2 ?dp_2 hH0 ?_
             case cp_2 => simp only [List.getElem?_toArray]; rfl
             case ep_2 => exact fun _ _ _ h => h
             case dp_2 => refine Or.inl ⟨by rfl, ?_⟩; intro W hSw; (try dsimp only at hSw); go_simp; try with_reducible rfl
             simp only [Act.put, List.setIfInBounds_toArray, List.set_cons_zero, List.set_cons_succ]
             refine wpAnyH_take (i := 3) (oi := ?ap_3) (v := ?bp_3) ?cp_3 (by kernel_rfl) (by kernel_rfl) (by kernel_rfl) ?ep_3 ?dp_3 hH0 ?_
             case cp_3 => simp only [List.getElem?_toArray]; rfl
             case ep_3 => exact fun _ _ _ h => h
             case dp_3 => refine Or.inl ⟨by rfl, ?_⟩; intro W hSw; (try dsimp only at hSw); go_simp; try with_reducible rfl
             simp only [Act.put, List.setIfInBounds_toArray, List.set_cons_zero, List.set_cons_succ]
             refine wpAnyH_take (i := 4) (oi := ?ap_4) (v := ?bp_4) ?cp_4 (by kernel_rfl) (by kernel_rfl) (by kernel_rfl) ?ep_4 ?dp_4 hH0 ?_
             case cp_4 => simp only [List.getElem?_toArray]; rfl
             case ep_4 => exact fun _ _ _ h => h
             case dp_4 => refine Or.inl ⟨by rfl, ?_⟩; intro W hSw; (try dsimp only at hSw); go_simp; try with_reducible rfl
             simp only [Act.put, List.setIfInBounds_toArray, List.set_cons_zero, List.set_cons_succ]
             refine wpAnyH_take (i := 5) (oi := ?ap_5) (v := ?bp_5) ?cp_5 (by kernel_rfl) (by kernel_rfl) (by kernel_rfl) ?ep_5 ?dp_5 hH0 ?_
             case cp_5 => simp only [List.getElem?_toArray]; rfl
             case ep_5 => exact fun _ _ _ h => h
             case dp_5 => refine Or.inl ⟨by rfl, ?_⟩; intro W hSw; (try dsimp only at hSw); go_simp; try with_reducible rfl
             simp only [Act.put, List.setIfInBounds_toArray, List.set_cons_zero, List.set_cons_succ]
             refine wpAnyH_take (i := 6) (oi := ?ap_6) (v := ?bp_6) ?cp_6 (by kernel_rfl) (by kernel_rfl) (by kernel_rfl) ?ep_6 ?dp_6 hH0 ?_
             case cp_6 => simp only [List.getElem?_toArray]; rfl
             case ep_6 => exact fun _ _ _ h => h
             case dp_6 => refine Or.inl ⟨by rfl, ?_⟩; intro W hSw; (try dsimp only at hSw); go_simp; try with_reducible rfl
             simp only [Act.put, List.setIfInBounds_toArray, List.set_cons_zero, List.set_cons_succ]
             refine wpAnyH_take (i := 7) (oi := ?ap_7) (v := ?bp_7) ?cp_7 (by kernel_rfl) (by kernel_rfl) (by kernel_rfl) ?ep_7 ?dp_7 hH0 ?_
             case cp_7 => simp only [List.getElem?_toArray]; rfl
             case ep_7 => exact fun _ _ _ h => h
             case dp_7 => refine Or.inl ⟨by rfl, ?_⟩; intro W hSw; (try dsimp only at hSw); go_simp; try with_reducible rfl
             simp only [Act.put, List.setIfInBounds_toArray, List.set_cons_zero, List.set_cons_succ]
             refine wpAnyH_take (i := 8) (oi := ?ap_8) (v := ?bp_8) ?cp_8 (by kernel_rfl) (by kernel_rfl) (by kernel_rfl) ?ep_8 ?dp_8 hH0 ?_
             case cp_8 => simp only [List.getElem?_toArray]; rfl
             case ep_8 => exact fun _ _ _ h => h
             case dp_8 => refine Or.inl ⟨by rfl, ?_⟩; intro W hSw; (try dsimp only at hSw); go_simp; try with_reducible rfl
             simp only [Act.put, List.setIfInBounds_toArray, List.set_cons_zero, List.set_cons_succ]
             refine wpAnyH_take (i := 9) (oi := ?ap_9) (v := ?bp_9) ?cp_9 (by kernel_rfl) (by kernel_rfl) (by kernel_rfl) ?ep_9 ?dp_9 hH0 ?_
             case cp_9 => simp only [List.getElem?_toArray]; rfl
             case ep_9 => exact fun _ _ _ h => h
             case dp_9 => refine Or.inl ⟨by rfl, ?_⟩; intro W hSw; (try dsimp only at hSw); go_simp; try with_reducible rfl
             simp only [Act.put, List.setIfInBounds_toArray, List.set_cons_zero, List.set_cons_succ]
             refine wpAnyH_take (i := 10) (oi := ?ap_10) (v := ?bp_10) ?cp_10 (by kernel_rfl) (by kernel_rfl) (by kernel_rfl) ?ep_10 ?dp_10 hH0 ?_
             case cp_10 => simp only [List.getElem?_toArray]; rfl
             case ep_10 => exact fun _ _ _ h => h
             case dp_10 => refine Or.inl ⟨by rfl, ?_⟩; intro W hSw; (try dsimp only at hSw); go_simp; try with_reducible rfl
             simp only [Act.put, List.setIfInBounds_toArray, List.set_cons_zero, List.set_cons_succ]
             refine wpAnyH_take (i := 11) (oi := ?ap_11) (v := ?bp_11) ?cp_11 (by kernel_rfl) (by kernel_rfl) (by kernel_rfl) ?ep_11 ?dp_11 hH0 ?_
             case cp_11 => simp only [List.getElem?_toArray]; rfl
             case ep_11 => exact fun _ _ _ h => h
             case dp_11 => refine Or.inl ⟨by rfl, ?_⟩; intro W hSw; (try dsimp only at hSw); go_simp; try with_reducible rfl
             simp only [Act.put, List.setIfInBounds_toArray, List.set_cons_zero, List.set_cons_succ]
             refine wpAnyH_take (i := 12) (oi := ?ap_12) (v := ?bp_12) ?cp_12 (by kernel_rfl) (by kernel_rfl) (by kernel_rfl) ?ep_12 ?dp_12 hH0 ?_
             case cp_12 => simp only [List.getElem?_toArray]; rfl
             case ep_12 => exact fun _ _ _ h => h
             case dp_12 => refine Or.inl ⟨by rfl, ?_⟩; intro W hSw; (try dsimp only at hSw); go_simp; try with_reducible rfl
             simp only [Act.put, List.setIfInBounds_toArray, List.set_cons_zero, List.set_cons_succ]
             refine wpAnyH_take (i := 13) (oi := ?ap_13) (v := ?bp_13) ?cp_13 (by kernel_rfl) (by kernel_rfl) (by kernel_rfl) ?ep_13 ?dp_13 hH0 ?_
             case cp_13 => simp only [List.getElem?_toArray]; rfl
             case ep_13 => exact fun _ _ _ h => h
             case dp_13 => refine Or.inl ⟨by rfl, ?_⟩; intro W hSw; (try dsimp only at hSw); go_simp; try with_reducible rfl
             simp only [Act.put, List.setIfInBounds_toArray, List.set_cons_zero, List.set_cons_succ]
             refine wpAnyH_take (i := 14) (oi := ?ap_14) (v := ?bp_14) ?cp_14 (by kernel_rfl) (by kernel_rfl) (by kernel_rfl) ?ep_14 ?dp_14 hH0 ?_
             case cp_14 => simp only [List.getElem?_toArray]; rfl
             case ep_14 => exact fun _ _ _ h => h
             case dp_14 => refine Or.inl ⟨by rfl, ?_⟩; intro W hSw; (try dsimp only at hSw); go_simp; try with_reducible rfl
             simp only [Act.put, List.setIfInBounds_toArray, List.set_cons_zero, List.set_cons_succ]
             refine wpAnyH_take (i := 15) (oi := ?ap_15) (v := ?bp_15) ?cp_15 (by kernel_rfl) (by kernel_rfl) (by kernel_rfl) ?ep_15 ?dp_15 hH0 ?_
             case cp_15 => simp only [List.getElem?_toArray]; rfl
             case ep_15 => exact fun _ _ _ h => h
             case dp_15 => refine Or.inl ⟨by rfl, ?_⟩; intro W hSw; (try dsimp only at hSw); go_simp; try with_reducible rfl
             simp only [Act.put, List.setIfInBounds_toArray, List.set_cons_zero, List.set_cons_succ]
             refine wpAnyH_take (i := 16) (oi := ?ap_16) (v := ?bp_16) ?cp_16 (by kernel_rfl) (by kernel_rfl) (by kernel_rfl) ?ep_16 ?dp_16 hH0 ?_
             case cp_16 => simp only [List.getElem?_toArray]; rfl
             case ep_16 => exact fun _ _ _ h => h
             case dp_16 => refine Or.inl ⟨by rfl, ?_⟩; intro W hSw; (try dsimp only at hSw); go_simp; try with_reducible rfl
             simp only [Act.put, List.setIfInBounds_toArray, List.set_cons_zero, List.set_cons_succ]
             refine wpAnyH_take (i := 17) (oi := ?ap_17) (v := ?bp_17) ?cp_17 (by kernel_rfl) (by kernel_rfl) (by kernel_rfl) ?ep_17 ?dp_17 hH0 ?_
             case cp_17 => simp only [List.getElem?_toArray]; rfl
             case ep_17 => exact fun _ _ _ h => h
             case dp_17 => refine Or.inl ⟨by rfl, ?_⟩; intro W hSw; (try dsimp only at hSw); go_simp; try with_reducible rfl
             simp only [Act.put, List.setIfInBounds_toArray, List.set_cons_zero, List.set_cons_succ]
             refine wpAnyH_take (i := 18) (oi := ?ap_18) (v := ?bp_18) ?cp_18 (by kernel_rfl) (by kernel_rfl) (by kernel_rfl) ?ep_18 ?dp_18 hH0 ?_
             case cp_18 => simp only [List.getElem?_toArray]; rfl
             case ep_18 => exact fun _ _ _ h => h
             case dp_18 => refine Or.inl ⟨by rfl, ?_⟩; intro W hSw; (try dsimp only at hSw); go_simp; try with_reducible rfl
             simp only [Act.put, List.setIfInBounds_toArray, List.set_cons_zero, List.set_cons_succ]
             refine wpAnyH_take (i := 19) (oi := ?ap_19) (v := ?bp_19) ?cp_19 (by kernel_rfl) (by kernel_rfl) (by kernel_rfl) ?ep_19 ?dp_19 hH0 ?_
             case cp_19 => simp only [List.getElem?_toArray]; rfl
             case ep_19 => exact fun _ _ _ h => h
             case dp_19 => refine Or.inl ⟨by rfl, ?_⟩; intro W hSw; (try dsimp only at hSw); go_simp; try with_reducible rfl
             simp only [Act.put, List.setIfInBounds_toArray, List.set_cons_zero, List.set_cons_succ]
             refine wpAnyH_take (i := 20) (oi := ?ap_20) (v := ?bp_20) ?cp_20 (by kernel_rfl) (by kernel_rfl) (by kernel_rfl) ?ep_20 ?dp_20 hH0 ?_
             case cp_20 => simp only [List.getElem?_toArray]; rfl
             case ep_20 => exact fun _ _ _ h => h
             case dp_20 => refine Or.inl ⟨by rfl, ?_⟩; intro W hSw; (try dsimp only at hSw); go_simp; try with_reducible rfl
             simp only [Act.put, List.setIfInBounds_toArray, List.set_cons_zero, List.set_cons_succ]
             refine wpAnyH_take (i := 21) (oi := ?ap_21) (v := ?bp_21) ?cp_21 (by kernel_rfl) (by kernel_rfl) (by kernel_rfl) ?ep_21 ?dp_21 hH0 ?_
             case cp_21 => simp only [List.getElem?_toArray]; rfl
             case ep_21 => exact fun _ _ _ h => h
             case dp_21 => refine Or.inl ⟨by rfl, ?_⟩; intro W hSw; (try dsimp only at hSw); go_simp; try with_reducible rfl
             simp only [Act.put, List.setIfInBounds_toArray, List.set_cons_zero, List.set_cons_succ]
             refine wpAnyH_take (i := 22) (oi := ?ap_22) (v := ?bp_22) ?cp_22 (by kernel_rfl) (by kernel_rfl) (by kernel_rfl) ?ep_22 ?dp_22 hH0 ?_
             case cp_22 => simp only [List.getElem?_toArray]; rfl
             case ep_22 => exact fun _ _ _ h => h
             case dp_22 => refine Or.inl ⟨by rfl, ?_⟩; intro W hSw; (try dsimp only at hSw); go_simp; try with_reducible rfl
             simp only [Act.put, List.setIfInBounds_toArray, List.set_cons_zero, List.set_cons_succ]
             refine wpAnyH_take (i := 23) (oi := ?ap_23) (v := ?bp_23) ?cp_23 (by kernel_rfl) (by kernel_rfl) (by kernel_rfl) ?ep_23 ?dp_23 hH0 ?_
             case cp_23 => simp only [List.getElem?_toArray]; rfl
             case ep_23 => exact fun _ _ _ h => h
             case dp_23 => refine Or.inl ⟨by rfl, ?_⟩; intro W hSw; (try dsimp only at hSw); go_simp; try with_reducible rfl
             simp only [Act.put, List.setIfInBounds_toArray, List.set_cons_zero, List.set_cons_succ]
             refine wpAnyH_take (i := 24) (oi := ?ap_24) (v := ?bp_24) ?cp_24 (by kernel_rfl) (by kernel_rfl) (by kernel_rfl) ?ep_24 ?dp_24 hH0 ?_
             case cp_24 => simp only [List.getElem?_toArray]; rfl
             case ep_24 => exact fun _ _ _ h => h
             case dp_24 => refine Or.inl ⟨by rfl, ?_⟩; intro W hSw; (try dsimp only at hSw); go_simp; try with_reducible rfl
             simp only [Act.put, List.setIfInBounds_toArray, List.set_cons_zero, List.set_cons_succ]
             refine wpAnyH_take (i := 25) (oi := ?ap_25) (v := ?bp_25) ?cp_25 (by kernel_rfl) (by kernel_rfl) (by kernel_rfl) ?ep_25 ?dp_25 hH0 ?_
             case cp_25 => simp only [List.getElem?_toArray]; rfl
             case ep_25 => exact fun _ _ _ h => h
             case dp_25 => refine Or.inl ⟨by rfl, ?_⟩; intro W hSw; (try dsimp only at hSw); go_simp; try with_reducible rfl
             simp only [Act.put, List.setIfInBounds_toArray, List.set_cons_zero, List.set_cons_succ]
             refine wpAnyH_take (i := 26) (oi := ?ap_26) (v := ?bp_26) ?cp_26 (by kernel_rfl) (by kernel_rfl) (by kernel_rfl) ?ep_26 ?dp_26 hH0 ?_
             case cp_26 => simp only [List.getElem?_toArray]; rfl
             case ep_26 => exact fun _ _ _ h => h
             case dp_26 => refine Or.inl ⟨by rfl, ?_⟩; intro W hSw; (try dsimp only at hSw); go_simp; try with_reducible rfl
             simp only [Act.put, List.setIfInBounds_toArray, List.set_cons_zero, List.set_cons_succ]
             refine wpAnyH_take (i := 27) (oi := ?ap_27) (v := ?bp_27) ?cp_27 (by kernel_rfl) (by kernel_rfl) (by kernel_rfl) ?ep_27 ?dp_27 hH0 ?_
             case cp_27 => simp only [List.getElem?_toArray]; rfl
             case ep_27 => exact fun _ _ _ h => h
             case dp_27 => refine Or.inl ⟨by rfl, ?_⟩; intro W hSw; (try dsimp only at hSw); go_simp; try with_reducible rfl
             simp only [Act.put, List.setIfInBounds_toArray, List.set_cons_zero, List.set_cons_succ]
             refine wpAnyH_take (i := 28) (oi := ?ap_28) (v := ?bp_28) ?cp_28 (by kernel_rfl) (by kernel_rfl) (by kernel_rfl) ?ep_28 ?dp_28 hH0 ?_
             case cp_28 => simp only [List.getElem?_toArray]; rfl
             case ep_28 => exact fun _ _ _ h => h
             case dp_28 => refine Or.inl ⟨by rfl, ?_⟩; intro W hSw; (try dsimp only at hSw); go_simp; try with_reducible rfl
             simp only [Act.put, List.setIfInBounds_toArray, List.set_cons_zero, List.set_cons_succ]
             refine wpAnyH_take (i := 29) (oi := ?ap_29) (v := ?bp_29) ?cp_29 (by kernel_rfl) (by kernel_rfl) (by kernel_rfl) ?ep_29 ?dp_29 hH0 ?_
             case cp_29 => simp only [List.getElem?_toArray]; rfl
             case ep_29 => exact fun _ _ _ h => h
             case dp_29 => refine Or.inl ⟨by rfl, ?_⟩; intro W hSw; (try dsimp only at hSw); go_simp; try with_reducible rfl
             simp only [Act.put, List.setIfInBounds_toArray, List.set_cons_zero, List.set_cons_succ]
             refine wpAnyH_take (i := 30) (oi := ?ap_30) (v := ?bp_30) ?cp_30 (by kernel_rfl) (by kernel_rfl) (by kernel_rfl) ?ep_30 ?dp_30 hH0 ?_
             case cp_30 => simp only [List.getElem?_toArray]; rfl
             case ep_30 => exact fun _ _ _ h => h
             case dp_30 => refine Or.inl ⟨by rfl, ?_⟩; intro W hSw; (try dsimp only at hSw); go_simp; try with_reducible rfl
             simp only [Act.put, List.setIfInBounds_toArray, List.set_cons_zero, List.set_cons_succ]
             refine wpAnyH_take (i := 31) (oi := ?ap_31) (v := ?bp_31) ?cp_31 (by kernel_rfl) (by kernel_rfl) (by kernel_rfl) ?ep_31 ?dp_31 hH0 ?_
             case cp_31 => simp only [List.getElem?_toArray]; rfl
             case ep_31 => exact fun _ _ _ h => h
             case dp_31 => refine Or.inl ⟨by rfl, ?_⟩; intro W hSw; (try dsimp only at hSw); go_simp; try with_reducible rfl
             simp only [Act.put, List.setIfInBounds_toArray, List.set_cons_zero, List.set_cons_succ]
             refine wpAnyH_take (i := 32) (oi := ?ap_32) (v := ?bp_32) ?cp_32 (by kernel_rfl) (by kernel_rfl) (by kernel_rfl) ?ep_32 ?dp_32 hH0 ?_
             case cp_32 => simp only [List.getElem?_toArray]; rfl
             case ep_32 => exact fun _ _ _ h => h
             case dp_32 => refine Or.inl ⟨by rfl, ?_⟩; intro W hSw; (try dsimp only at hSw); go_simp; try with_reducible rfl
             simp only [Act.put, List.setIfInBounds_toArray, List.set_cons_zero, List.set_cons_succ]
             refine wpAnyH_take (i := 33) (oi := ?ap_33) (v := ?bp_33) ?cp_33 (by kernel_rfl) (by kernel_rfl) (by kernel_rfl) ?ep_33 ?dp_33 hH0 ?_
             case cp_33 => simp only [List.getElem?_toArray]; rfl
             case ep_33 => exact fun _ _ _ h => h
             case dp_33 => refine Or.inl ⟨by rfl, ?_⟩; intro W hSw; (try dsimp only at hSw); go_simp; try with_reducible rfl
             simp only [Act.put, List.setIfInBounds_toArray, List.set_cons_zero, List.set_cons_succ]
             refine wpAnyH_take (i := 34) (oi := ?ap_34) (v := ?bp_34) ?cp_34 (by kernel_rfl) (by kernel_rfl) (by kernel_rfl) ?ep_34 ?dp_34 hH0 ?_
             case cp_34 => simp only [List.getElem?_toArray]; rfl
             case ep_34 => exact fun _ _ _ h => h
             case dp_34 => refine Or.inl ⟨by rfl, ?_⟩; intro W hSw; (try dsimp only at hSw); go_simp; try with_reducible rfl
             simp only [Act.put, List.setIfInBounds_toArray, List.set_cons_zero, List.set_cons_succ]
             refine wpAnyH_take (i := 35) (oi := ?ap_35) (v := ?bp_35) ?cp_35 (by kernel_rfl) (by kernel_rfl) (by kernel_rfl) ?ep_35 ?dp_35 hH0 ?_
             case cp_35 => simp only [List.getElem?_toArray]; rfl
             case ep_35 => exact fun _ _ _ h => h
             case dp_35 => refine Or.inl ⟨by rfl, ?_⟩; intro W hSw; (try dsimp only at hSw); go_simp; try with_reducible rfl
             simp only [Act.put, List.setIfInBounds_toArray, List.set_cons_zero, List.set_cons_succ]
             refine wpAnyH_take (i := 36) (oi := ?ap_36) (v := ?bp_36) ?cp_36 (by kernel_rfl) (by kernel_rfl) (by kernel_rfl) ?ep_36 ?dp_36 hH0 ?_
             case cp_36 => simp only [List.getElem?_toArray]; rfl
             case ep_36 => exact fun _ _ _ h => h
             case dp_36 => refine Or.inl ⟨by rfl, ?_⟩; intro W hSw; (try dsimp only at hSw); go_simp; try with_reducible rfl
             simp only [Act.put, List.setIfInBounds_toArray, List.set_cons_zero, List.set_cons_succ]
             refine wpAnyH_take (i := 37) (oi := ?ap_37) (v := ?bp_37) ?cp_37 (by kernel_rfl) (by kernel_rfl) (by kernel_rfl) ?ep_37 ?dp_37 hH0 ?_
             case cp_37 => simp only [List.getElem?_toArray]; rfl
             case ep_37 => exact fun _ _ _ h => h
             case dp_37 => refine Or.inl ⟨by rfl, ?_⟩; intro W hSw; (try dsimp only at hSw); go_simp; try with_reducible rfl
             simp only [Act.put, List.setIfInBounds_toArray, List.set_cons_zero, List.set_cons_succ]
             refine wpAnyH_take (i := 38) (oi := ?ap_38) (v := ?bp_38) ?cp_38 (by kernel_rfl) (by kernel_rfl) (by kernel_rfl) ?ep_38 ?dp_38 hH0 ?_
             case cp_38 => simp only [List.getElem?_toArray]; rfl
             case ep_38 => exact fun _ _ _ h => h
             case dp_38 => refine Or.inl ⟨by rfl, ?_⟩; intro W hSw; (try dsimp only at hSw); go_simp; try with_reducible rfl
             simp only [Act.put, List.setIfInBounds_toArray, List.set_cons_zero, List.set_cons_succ]
             refine wpAnyH_take (i := 39) (oi := ?ap_39) (v := ?bp_39) ?cp_39 (by kernel_rfl) (by kernel_rfl) (by kernel_rfl) ?ep_39 ?dp_39 hH0 ?_
             case cp_39 => simp only [List.getElem?_toArray]; rfl
             case ep_39 => exact fun _ _ _ h => h
             case dp_39 => refine Or.inl ⟨by rfl, ?_⟩; intro W hSw; (try dsimp only at hSw); go_simp; try with_reducible rfl
             simp only [Act.put, List.setIfInBounds_toArray, List.set_cons_zero, List.set_cons_succ]
             refine wpAnyH_take (i := 40) (oi := ?ap_40) (v := ?bp_40) ?cp_40 (by kernel_rfl) (by kernel_rfl) (by kernel_rfl) ?ep_40 ?dp_40 hH0 ?_
             case cp_40 => simp only [List.getElem?_toArray]; rfl
             case ep_40 => exact fun _ _ _ h => h
             case dp_40 => refine Or.inl ⟨by rfl, ?_⟩; intro W hSw; (try dsimp only at hSw); go_simp; try with_reducible rfl
             simp only [Act.put, List.setIfInBounds_toArray, List.set_cons_zero, List.set_cons_succ]
             refine wpAnyH_take (i := 41) (oi := ?ap_41) (v := ?bp_41) ?cp_41 (by kernel_rfl) (by kernel_rfl) (by kernel_rfl) ?ep_41 ?dp_41 hH0 ?_
             case cp_41 => simp only [List.getElem?_toArray]; rfl
             case ep_41 => exact fun _ _ _ h => h
             case dp_41 => refine Or.inl ⟨by rfl, ?_⟩; intro W hSw; (try dsimp only at hSw); go_simp; try with_reducible rfl
             simp only [Act.put, List.setIfInBounds_toArray, List.set_cons_zero, List.set_cons_succ]
             refine wpAnyH_take (i := 42) (oi := ?ap_42) (v := ?bp_42) ?cp_42 (by kernel_rfl) (by kernel_rfl) (by kernel_rfl) ?ep_42 ?dp_42 hH0 ?_
             case cp_42 => simp only [List.getElem?_toArray]; rfl
             case ep_42 => exact fun _ _ _ h => h
             case dp_42 => refine Or.inl ⟨by rfl, ?_⟩; intro W hSw; (try dsimp only at hSw); go_simp; try with_reducible rfl
             simp only [Act.put, List.setIfInBounds_toArray, List.set_cons_zero, List.set_cons_succ]
             refine wpAnyH_take (i := 43) (oi := ?ap_43) (v := ?bp_43) ?cp_43 (by kernel_rfl) (by kernel_rfl) (by kernel_rfl) ?ep_43 ?dp_43 hH0 ?_
             case cp_43 => simp only [List.getElem?_toArray]; rfl
             case ep_43 => exact fun _ _ _ h => h
             case dp_43 => refine Or.inl ⟨by rfl, ?_⟩; intro W hSw; (try dsimp only at hSw); go_simp; try with_reducible rfl
             simp only [Act.put, List.setIfInBounds_toArray, List.set_cons_zero, List.set_cons_succ]
             refine wpAnyH_take (i := 44) (oi := ?ap_44) (v := ?bp_44) ?cp_44 (by kernel_rfl) (by kernel_rfl) (by kernel_rfl) ?ep_44 ?dp_44 hH0 ?_
             case cp_44 => simp only [List.getElem?_toArray]; rfl
             case ep_44 => exact fun _ _ _ h => h
             case dp_44 => refine Or.inl ⟨by rfl, ?_⟩; intro W hSw; (try dsimp only at hSw); go_simp; try with_reducible rfl
             simp only [Act.put, List.setIfInBounds_toArray, List.set_cons_zero, List.set_cons_succ]
             refine wpAnyH_take (i := 45) (oi := ?ap_45) (v := ?bp_45) ?cp_45 (by kernel_rfl) (by kernel_rfl) (by kernel_rfl) ?ep_45 ?dp_45 hH0 ?_
             case cp_45 => simp only [List.getElem?_toArray]; rfl
             case ep_45 => exact fun _ _ _ h => h
             case dp_45 => refine Or.inl ⟨by rfl, ?_⟩; intro W hSw; (try dsimp only at hSw); go_simp; try with_reducible rfl
             simp only [Act.put, List.setIfInBounds_toArray, List.set_cons_zero, List.set_cons_succ]
             refine wpAnyH_take (i := 46) (oi := ?ap_46) (v := ?bp_46) ?cp_46 (by kernel_rfl) (by kernel_rfl) (by kernel_rfl) ?ep_46 ?dp_46 hH0 ?_
             case cp_46 => simp only [List.getElem?_toArray]; rfl
             case ep_46 => exact fun _ _ _ h => h
             case dp_46 => refine Or.inl ⟨by rfl, ?_⟩; intro W hSw; (try dsimp only at hSw); go_simp; try with_reducible rfl
             simp only [Act.put, List.setIfInBounds_toArray, List.set_cons_zero, List.set_cons_succ]
             refine wpAnyH_take (i := 47) (oi := ?ap_47) (v := ?bp_47) ?cp_47 (by kernel_rfl) (by kernel_rfl) (by kernel_rfl) ?ep_47 ?dp_47 hH0 ?_
             case cp_47 => simp only [List.getElem?_toArray]; rfl
             case ep_47 => exact fun _ _ _ h => h
             case dp_47 => refine Or.inl ⟨by rfl, ?_⟩; intro W hSw; (try dsimp only at hSw); go_simp; try with_reducible rfl
             simp only [Act.put, List.setIfInBounds_toArray, List.set_cons_zero, List.set_cons_succ]
             refine wpAnyH_take (i := 48) (oi := ?ap_48) (v := ?bp_48) ?cp_48 (by kernel_rfl) (by kernel_rfl) (by kernel_rfl) ?ep_48 ?dp_48 hH0 ?_
             case cp_48 => simp only [List.getElem?_toArray]; rfl
             case ep_48 => exact fun _ _ _ h => h
             case dp_48 => refine Or.inl ⟨by rfl, ?_⟩; intro W hSw; (try dsimp only at hSw); go_simp; try with_reducible rfl
             simp only [Act.put, List.setIfInBounds_toArray, List.set_cons_zero, List.set_cons_succ]
             refine wpAnyH_take (i := 49) (oi := ?ap_49) (v := ?bp_49) ?cp_49 (by kernel_rfl) (by kernel_rfl) (by kernel_rfl) ?ep_49 ?dp_49 hH0 ?_
             case cp_49 => simp only [List.getElem?_toArray]; rfl
             case ep_49 => exact fun _ _ _ h => h
             case dp_49 => refine Or.inl ⟨by rfl, ?_⟩; intro W hSw; (try dsimp only at hSw); go_simp; try with_reducible rfl
             simp only [Act.put, List.setIfInBounds_toArray, List.set_cons_zero, List.set_cons_succ]
             refine wpAnyH_take (i := 50) (oi := ?ap_50) (v := ?bp_50) ?cp_50 (by kernel_rfl) (by kernel_rfl) (by kernel_rfl) ?ep_50 ?dp_50 hH0 ?_
             case cp_50 => simp only [List.getElem?_toArray]; rfl
             case ep_50 => exact fun _ _ _ h => h
             case dp_50 => refine Or.inl ⟨by rfl, ?_⟩; intro W hSw; (try dsimp only at hSw); go_simp; try with_reducible rfl
             simp only [Act.put, List.setIfInBounds_toArray, List.set_cons_zero, List.set_cons_succ]
             refine wpAnyH_take (i := 51) (oi := ?ap_51) (v := ?bp_51) ?cp_51 (by kernel_rfl) (by kernel_rfl) (by kernel_rfl) ?ep_51 ?dp_51 hH0 ?_
             case cp_51 => simp only [List.getElem?_toArray]; rfl
             case ep_51 => exact fun _ _ _ h => h
             case dp_51 => refine Or.inl ⟨by rfl, ?_⟩; intro W hSw; (try dsimp only at hSw); go_simp; try with_reducible rfl
             simp only [Act.put, List.setIfInBounds_toArray, List.set_cons_zero, List.set_cons_succ]
             refine wpAnyH_take (i := 52) (oi := ?ap_52) (v := ?bp_52) ?cp_52 (by kernel_rfl) (by kernel_rfl) (by kernel_rfl) ?ep_52 ?dp_52 hH0 ?_
             case cp_52 => simp only [List.getElem?_toArray]; rfl
             case ep_52 => exact fun _ _ _ h => h
             case dp_52 => refine Or.inl ⟨by rfl, ?_⟩; intro W hSw; (try dsimp only at hSw); go_simp; try with_reducible rfl
             simp only [Act.put, List.setIfInBounds_toArray, List.set_cons_zero, List.set_cons_succ]
             refine wpAnyH_take (i := 53) (oi := ?ap_53) (v := ?bp_53) ?cp_53 (by kernel_rfl) (by kernel_rfl) (by kernel_rfl) ?ep_53 ?dp_53 hH0 ?_
             case cp_53 => simp only [List.getElem?_toArray]; rfl
             case ep_53 => exact fun _ _ _ h => h
             case dp_53 => refine Or.inl ⟨by rfl, ?_⟩; intro W hSw; (try dsimp only at hSw); go_simp; try with_reducible rfl
             simp only [Act.put, List.setIfInBounds_toArray, List.set_cons_zero, List.set_cons_succ]
             refine wpAnyH_take (i := 54) (oi := ?ap_54) (v := ?bp_54) ?cp_54 (by kernel_rfl) (by kernel_rfl) (by kernel_rfl) ?ep_54 ?dp_54 hH0 ?_
             case cp_54 => simp only [List.getElem?_toArray]; rfl
             case ep_54 => exact fun _ _ _ h => h
             case dp_54 => refine Or.inl ⟨by rfl, ?_⟩; intro W hSw; (try dsimp only at hSw); go_simp; try with_reducible rfl
             simp only [Act.put, List.setIfInBounds_toArray, List.set_cons_zero, List.set_cons_succ]
             refine wpAnyH_take (i := 55) (oi := ?ap_55) (v := ?bp_55) ?cp_55 (by kernel_rfl) (by kernel_rfl) (by kernel_rfl) ?ep_55 ?dp_55 hH0 ?_
             case cp_55 => simp only [List.getElem?_toArray]; rfl
             case ep_55 => exact fun _ _ _ h => h
             case dp_55 => refine Or.inl ⟨by rfl, ?_⟩; intro W hSw; (try dsimp only at hSw); go_simp; try with_reducible rfl
             simp only [Act.put, List.setIfInBounds_toArray, List.set_cons_zero, List.set_cons_succ]
             refine wpAnyH_take (i := 56) (oi := ?ap_56) (v := ?bp_56) ?cp_56 (by kernel_rfl) (by kernel_rfl) (by kernel_rfl) ?ep_56 ?dp_56 hH0 ?_
             case cp_56 => simp only [List.getElem?_toArray]; rfl
             case ep_56 => exact fun _ _ _ h => h
             case dp_56 => refine Or.inl ⟨by rfl, ?_⟩; intro W hSw; (try dsimp only at hSw); go_simp; try with_reducible rfl
             simp only [Act.put, List.setIfInBounds_toArray, List.set_cons_zero, List.set_cons_succ]
             refine wpAnyH_take (i := 57) (oi := ?ap_57) (v := ?bp_57) ?cp_57 (by kernel_rfl) (by kernel_rfl) (by kernel_rfl) ?ep_57 ?dp_57 hH0 ?_
             case cp_57 => simp only [List.getElem?_toArray]; rfl
             case ep_57 => exact fun _ _ _ h => h
             case dp_57 => refine Or.inl ⟨by rfl, ?_⟩; intro W hSw; (try dsimp only at hSw); go_simp; try with_reducible rfl
             simp only [Act.put, List.setIfInBounds_toArray, List.set_cons_zero, List.set_cons_succ]
             refine wpAnyH_take (i := 58) (oi := ?ap_58) (v := ?bp_58) ?cp_58 (by kernel_rfl) (by kernel_rfl) (by kernel_rfl) ?ep_58 ?dp_58 hH0 ?_
             case cp_58 => simp only [List.getElem?_toArray]; rfl
             case ep_58 => exact fun _ _ _ h => h
             case dp_58 => refine Or.inl ⟨by rfl, ?_⟩; intro W hSw; (try dsimp only at hSw); go_simp; try with_reducible rfl
             simp only [Act.put, List.setIfInBounds_toArray, List.set_cons_zero, List.set_cons_succ]
             refine wpAnyH_take (i := 59) (oi := ?ap_59) (v := ?bp_59) ?cp_59 (by kernel_rfl) (by kernel_rfl) (by kernel_rfl) ?ep_59 ?dp_59 hH0 ?_
             case cp_59 => simp only [List.getElem?_toArray]; rfl
             case ep_59 => exact fun _ _ _ h => h
             case dp_59 => refine Or.inl ⟨by rfl, ?_⟩; intro W hSw; (try dsimp only at hSw); go_simp; try with_reducible rfl
             simp only [Act.put, List.setIfInBounds_toArray, List.set_cons_zero, List.set_cons_succ]
             refine wpAnyH_take (i := 60) (oi := ?ap_60) (v := ?bp_60) ?cp_60 (by kernel_rfl) (by kernel_rfl) (by kernel_rfl) ?ep_60 ?dp_60 hH0 ?_
             case cp_60 => simp only [List.getElem?_toArray]; rfl
             case ep_60 => exact fun _ _ _ h => h
             case dp_60 => refine Or.inl ⟨by rfl, ?_⟩; intro W hSw; (try dsimp only at hSw); go_simp; try with_reducible rfl
             simp only [Act.put, List.setIfInBounds_toArray, List.set_cons_zero, List.set_cons_succ]
             refine wpAnyH_take (i := 61) (oi := ?ap_61) (v := ?bp_61) ?cp_61 (by kernel_rfl) (by kernel_rfl) (by kernel_rfl) ?ep_61 ?dp_61 hH0 ?_
             case cp_61 => simp only [List.getElem?_toArray]; rfl
             case ep_61 => exact fun _ _ _ h => h
             case dp_61 => refine Or.inl ⟨by rfl, ?_⟩; intro W hSw; (try dsimp only at hSw); go_simp; try with_reducible rfl
             simp only [Act.put, List.setIfInBounds_toArray, List.set_cons_zero, List.set_cons_succ]
             refine wpAnyH_take (i := 62) (oi := ?ap_62) (v := ?bp_62) ?cp_62 (by kernel_rfl) (by kernel_rfl) (by kernel_rfl) ?ep_62 ?dp_62 hH0 ?_
             case cp_62 => simp only [List.getElem?_toArray]; rfl
             case ep_62 => exact fun _ _ _ h => h
             case dp_62 => refine Or.inl ⟨by rfl, ?_⟩; intro W hSw; (try dsimp only at hSw); go_simp; try with_reducible rfl
             simp only [Act.put, List.setIfInBounds_toArray, List.set_cons_zero, List.set_cons_succ]
             refine wpAnyH_take (i := 63) (oi := ?ap_63) (v := ?bp_63) ?cp_63 (by kernel_rfl) (by kernel_rfl) (by kernel_rfl) ?ep_63 ?dp_63 hH0 ?_
             case cp_63 => simp only [List.getElem?_toArray]; rfl
             case ep_63 => exact fun _ _ _ h => h
             case dp_63 => refine Or.inl ⟨by rfl, ?_⟩; intro W hSw; (try dsimp only at hSw); go_simp; try with_reducible rfl
             simp only [Act.put, List.setIfInBounds_toArray, List.set_cons_zero, List.set_cons_succ]
             refine wpAnyH_take (i := 64) (oi := ?ap_64) (v := ?bp_64) ?cp_64 (by kernel_rfl) (by kernel_rfl) (by kernel_rfl) ?ep_64 ?dp_64 hH0 ?_
             case cp_64 => simp only [List.getElem?_toArray]; rfl
             case ep_64 => exact fun _ _ _ h => h
             case dp_64 => refine Or.inl ⟨by rfl, ?_⟩; intro W hSw; (try dsimp only at hSw); go_simp; try with_reducible rfl
             simp only [Act.put, List.setIfInBounds_toArray, List.set_cons_zero, List.set_cons_succ]
             refine wpAnyH_take (i := 65) (oi := ?ap_65) (v := ?bp_65) ?cp_65 (by kernel_rfl) (by kernel_rfl) (by kernel_rfl) ?ep_65 ?dp_65 hH0 ?_
             case cp_65 => simp only [List.getElem?_toArray]; rfl
             case ep_65 => exact fun _ _ _ h => h
             case dp_65 => refine Or.inl ⟨by rfl, ?_⟩; intro W hSw; (try dsimp only at hSw); go_simp; try with_reducible rfl
             simp only [Act.put, List.setIfInBounds_toArray, List.set_cons_zero, List.set_cons_succ]
             refine wpAnyH_done (by kernel_rfl) ?_ _
             go_wp2
             all_goals go_meet
             all_goals
              case rel => exact .inl ⟨rfl, by omega, rfl⟩
            ·have D6 : decide (si < pr) = false := decide_eq_false d6
             refine region_begin (S := fun X' => X'.cell? ⟨w.heap.size, 0, none⟩ = some (.int .i64 V.epoch) ∧ X'.cell? ⟨w.heap.size, 1, none⟩ = some (.slice (some ⟨b1, o1, none⟩) V.chain.length k1) ∧ X'.cell? ⟨w.heap.size, 2, none⟩ = some (.slice (some ⟨b2, o2, none⟩) V.since.length k2) ∧ X'.cell? ⟨w.heap.size, 3, none⟩ = some (.slice (some ⟨b3, o3, none⟩) V.boot.length k3) ∧ X'.cell? ⟨b1, o1 + k, none⟩ = some (.int .i64 ci) ∧ X'.cell? ⟨b2, o2 + k, none⟩ = some (.int .i64 si) ∧ X'.cell? ⟨b3, o3 + k, none⟩ = some (.int .i64 bi) ∧ X'.cell? ⟨b2, o2 + m, none⟩ = some (.int .i64 pr)) 66 rfl (by kernel_rfl) ⟨y0, y1, y2, y3, hc1, hc2, hc3, hcp⟩ (fun hH0 => ?_)
             refine wpAnyH_take (i := 0) (oi := ?aq_0) (v := ?bq_0) ?cq_0 (by kernel_rfl) (by kernel_rfl) (by kernel_rfl) ?eq_0 ?dq_0 hH0 ?_
             case cq_0 => simp only [List.getElem?_toArray]; rfl
             case eq_0 => exact fun _ _ _ h => h
             case dq_0 => refine Or.inl ⟨by rfl, ?_⟩; intro W hSw; (try dsimp only at hSw); go_simp; try with_reducible rfl
             simp only [Act.put, List.setIfInBounds_toArray, List.set_cons_zero, List.set_cons_succ]
             refine wpAnyH_take (i := 1) (oi := ?aq_1) (v := ?bq_1) ?cq_1 (by kernel_rfl) (by kernel_rfl) (by kernel_rfl) ?eq_1 ?dq_1 hH0 ?_
             case cq_1 => simp only [List.getElem?_toArray]; rfl
             case eq_1 => exact fun _ _ _ h => h
             case dq_1 => refine Or.inl ⟨by rfl, ?_⟩; intro W hSw; (try dsimp only at hSw); go_simp; try with_reducible rfl
             simp only [Act.put, List.setIfInBounds_toArray, List.set_cons_zero, List.set_cons_succ]
             refine wpAnyH_take (i := 2) (oi := ?aq_2) (v := ?bq_2) ?cq_2 (by kernel_rfl) (by kernel_rfl) (by kernel_rfl) ?eq_2 ?dq_2 hH0 ?_
             case cq_2 => simp only [List.getElem?_toArray]; rfl
             case eq_2 => exact fun _ _ _ h => h
             case dq_2 => refine Or.inl ⟨by rfl, ?_⟩; intro W hSw; (try dsimp only at hSw); go_simp; try with_reducible rfl
             simp only [Act.put, List.setIfInBounds_toArray, List.set_cons_zero, List.set_cons_succ]
             refine wpAnyH_take (i := 3) (oi := ?aq_3) (v := ?bq_3) ?cq_3 (by kernel_rfl) (by kernel_rfl) (by kernel_rfl) ?eq_3 ?dq_3 hH0 ?_
             case cq_3 => simp only [List.getElem?_toArray]; rfl
             case eq_3 => exact fun _ _ _ h => h
             case dq_3 => refine Or.inl ⟨by rfl, ?_⟩; intro W hSw; (try dsimp only at hSw); go_simp; try with_reducible rfl
             simp only [Act.put, List.setIfInBounds_toArray, List.set_cons_zero, List.set_cons_succ]
             refine wpAnyH_take (i := 4) (oi := ?aq_4) (v := ?bq_4) ?cq_4 (by kernel_rfl) (by kernel_rfl) (by kernel_rfl) ?eq_4 ?dq_4 hH0 ?_
             case cq_4 => simp only [List.getElem?_toArray]; rfl
             case eq_4 => exact fun _ _ _ h => h
             case dq_4 => refine Or.inl ⟨by rfl, ?_⟩; intro W hSw; (try dsimp only at hSw); go_simp; try with_reducible rfl
             simp only [Act.put, List.setIfInBounds_toArray, List.set_cons_zero, List.set_cons_succ]
             refine wpAnyH_take (i := 5) (oi := ?aq_5) (v := ?bq_5) ?cq_5 (by kernel_rfl) (by kernel_rfl) (by kernel_rfl) ?eq_5 ?dq_5 hH0 ?_
             case cq_5 => simp only [List.getElem?_toArray]; rfl
             case eq_5 => exact fun _ _ _ h => h
             case dq_5 => refine Or.inl ⟨by rfl, ?_⟩; intro W hSw; (try dsimp only at hSw); go_simp; try with_reducible rfl
             simp only [Act.put, List.setIfInBounds_toArray, List.set_cons_zero, List.set_cons_succ]
             refine wpAnyH_take (i := 6) (oi := ?aq_6) (v := ?bq_6) ?cq_6 (by kernel_rfl) (by kernel_rfl) (by kernel_rfl) ?eq_6 ?dq_6 hH0 ?_
             case cq_6 => simp only [List.getElem?_toArray]; rfl
             case eq_6 => exact fun _ _ _ h => h
             case dq_6 => refine Or.inl ⟨by rfl, ?_⟩; intro W hSw; (try dsimp only at hSw); go_simp; try with_reducible rfl
             simp only [Act.put, List.setIfInBounds_toArray, List.set_cons_zero, List.set_cons_succ]
             refine wpAnyH_take (i := 7) (oi := ?aq_7) (v := ?bq_7) ?cq_7 (by kernel_rfl) (by kernel_rfl) (by kernel_rfl) ?eq_7 ?dq_7 hH0 ?_
             case cq_7 => simp only [List.getElem?_toArray]; rfl
             case eq_7 => exact fun _ _ _ h => h
             case dq_7 => refine Or.inl ⟨by rfl, ?_⟩; intro W hSw; (try dsimp only at hSw); go_simp; try with_reducible rfl
             simp only [Act.put, List.setIfInBounds_toArray, List.set_cons_zero, List.set_cons_succ]
             refine wpAnyH_take (i := 8) (oi := ?aq_8) (v := ?bq_8) ?cq_8 (by kernel_rfl) (by kernel_rfl) (by kernel_rfl) ?eq_8 ?dq_8 hH0 ?_
             case cq_8 => simp only [List.getElem?_toArray]; rfl
             case eq_8 => exact fun _ _ _ h => h
             case dq_8 => refine Or.inl ⟨by rfl, ?_⟩; intro W hSw; (try dsimp only at hSw); go_simp; try with_reducible rfl
             simp only [Act.put, List.setIfInBounds_toArray, List.set_cons_zero, List.set_cons_succ]
             refine wpAnyH_take (i := 9) (oi := ?aq_9) (v := ?bq_9) ?cq_9 (by kernel_rfl) (by kernel_rfl) (by kernel_rfl) ?eq_9 ?dq_9 hH0 ?_
             case cq_9 => simp only [List.getElem?_toArray]; rfl
             case eq_9 => exact fun _ _ _ h => h
             case dq_9 => refine Or.inl ⟨by rfl, ?_⟩; intro W hSw; (try dsimp only at hSw); go_simp; try with_reducible rfl
             simp only [Act.put, List.setIfInBounds_toArray, List.set_cons_zero, List.set_cons_succ]
             refine wpAnyH_take (i := 10) (oi := ?aq_10) (v := ?bq_10) ?cq_10 (by kernel_rfl) (by kernel_rfl) (by kernel_rfl) ?eq_10 ?dq_10 hH0 ?_
             case cq_10 => simp only [List.getElem?_toArray]; rfl
             case eq_10 => exact fun _ _ _ h => h
             case dq_10 => refine Or.inl ⟨by rfl, ?_⟩; intro W hSw; (try dsimp only at hSw); go_simp; try with_reducible rfl
             simp only [Act.put, List.setIfInBounds_toArray, List.set_cons_zero, List.set_cons_succ]
             refine wpAnyH_take (i := 11) (oi := ?aq_11) (v := ?bq_11) ?cq_11 (by kernel_rfl) (by kernel_rfl) (by kernel_rfl) ?eq_11 ?dq_11 hH0 ?_
             case cq_11 => simp only [List.getElem?_toArray]; rfl
             case eq_11 => exact fun _ _ _ h => h
             case dq_11 => refine Or.inl ⟨by rfl, ?_⟩; intro W hSw; (try dsimp only at hSw); go_simp; try with_reducible rfl
             simp only [Act.put, List.setIfInBounds_toArray, List.set_cons_zero, List.set_cons_succ]
             refine wpAnyH_take (i := 12) (oi := ?aq_12) (v := ?bq_12) ?cq_12 (by kernel_rfl) (by kernel_rfl) (by kernel_rfl) ?eq_12 ?dq_12 hH0 ?_
             case cq_12 => simp only [List.getElem?_toArray]; rfl
             case eq_12 => exact fun _ _ _ h => h
             case dq_12 => refine Or.inl ⟨by rfl, ?_⟩; intro W hSw; (try dsimp only at hSw); go_simp; try with_reducible rfl
             simp only [Act.put, List.setIfInBounds_toArray, List.set_cons_zero, List.set_cons_succ]
             refine wpAnyH_take (i := 13) (oi := ?aq_13) (v := ?bq_13) ?cq_13 (by kernel_rfl) (by kernel_rfl) (by kernel_rfl) ?eq_13 ?dq_13 hH0 ?_
             case cq_13 => simp only [List.getElem?_toArray]; rfl
             case eq_13 => exact fun _ _ _ h => h
             case dq_13 => refine Or.inl ⟨by rfl, ?_⟩; intro W hSw; (try dsimp only at hSw); go_simp; try with_reducible rfl
             simp only [Act.put, List.setIfInBounds_toArray, List.set_cons_zero, List.set_cons_succ]
             refine wpAnyH_take (i := 14) (oi := ?aq_14) (v := ?bq_14) ?cq_14 (by kernel_rfl) (by kernel_rfl) (by kernel_rfl) ?eq_14 ?dq_14 hH0 ?_
             case cq_14 => simp only [List.getElem?_toArray]; rfl
             case eq_14 => exact fun _ _ _ h => h
             case dq_14 => refine Or.inl ⟨by rfl, ?_⟩; intro W hSw; (try dsimp only at hSw); go_simp; try with_reducible rfl
             simp only [Act.put, List.setIfInBounds_toArray, List.set_cons_zero, List.set_cons_succ]
             refine wpAnyH_take (i := 15) (oi := ?aq_15) (v := ?bq_15) ?cq_15 (by kernel_rfl) (by kernel_rfl) (by kernel_rfl) ?eq_15 ?dq_15 hH0 ?_
             case cq_15 => simp only [List.getElem?_toArray]; rfl
             case eq_15 => exact fun _ _ _ h => h
             case dq_15 => refine Or.inl ⟨by rfl, ?_⟩; intro W hSw; (try dsimp only at hSw); go_simp; try with_reducible rfl
             simp only [Act.put, List.setIfInBounds_toArray, List.set_cons_zero, List.set_cons_succ]
             refine wpAnyH_take (i := 16) (oi := ?aq_16) (v := ?bq_16) ?cq_16 (by kernel_rfl) (by kernel_rfl) (by kernel_rfl) ?eq_16 ?dq_16 hH0 ?_
             case cq_16 => simp only [List.getElem?_toArray]; rfl
             case eq_16 => exact fun _ _ _ h => h
             case dq_16 => refine Or.inl ⟨by rfl, ?_⟩; intro W hSw; (try dsimp only at hSw); go_simp; try with_reducible rfl
             simp only [Act.put, List.setIfInBounds_toArray, List.set_cons_zero, List.set_cons_succ]
             refine wpAnyH_take (i := 17) (oi := ?aq_17) (v := ?bq_17) ?cq_17 (by kernel_rfl) (by kernel_rfl) (by kernel_rfl) ?eq_17 ?dq_17 hH0 ?_
             case cq_17 => simp only [List.getElem?_toArray]; rfl
             case eq_17 => exact fun _ _ _ h => h
             case dq_17 => refine Or.inl ⟨by rfl, ?_⟩; intro W hSw; (try dsimp only at hSw); go_simp; try with_reducible rfl
             simp only [Act.put, List.setIfInBounds_toArray, List.set_cons_zero, List.set_cons_succ]
             refine wpAnyH_take (i := 18) (oi := ?aq_18) (v := ?bq_18) ?cq_18 (by kernel_rfl) (by kernel_rfl) (by kernel_rfl) ?eq_18 ?dq_18 hH0 ?_
             case cq_18 => simp only [List.getElem?_toArray]; rfl
             case eq_18 => exact fun _ _ _ h => h
             case dq_18 => refine Or.inl ⟨by rfl, ?_⟩; intro W hSw; (try dsimp only at hSw); go_simp; try with_reducible rfl
             simp only [Act.put, List.setIfInBounds_toArray, List.set_cons_zero, List.set_cons_succ]
             refine wpAnyH_take (i := 19) (oi := ?aq_19) (v := ?bq_19) ?cq_19 (by kernel_rfl) (by kernel_rfl) (by kernel_rfl) ?eq_19 ?dq_19 hH0 ?_
             case cq_19 => simp only [List.getElem?_toArray]; rfl
             case eq_19 => exact fun _ _ _ h => h
             case dq_19 => refine Or.inl ⟨by rfl, ?_⟩; intro W hSw; (try dsimp only at hSw); go_simp; try with_reducible rfl
             simp only [Act.put, List.setIfInBounds_toArray, List.set_cons_zero, List.set_cons_succ]
             refine wpAnyH_take (i := 20) (oi := ?aq_20) (v := ?bq_20) ?cq_20 (by kernel_rfl) (by kernel_rfl) (by kernel_rfl) ?eq_20 ?dq_20 hH0 ?_
             case cq_20 => simp only [List.getElem?_toArray]; rfl
             case eq_20 => exact fun _ _ _ h => h
             case dq_20 => refine Or.inl ⟨by rfl, ?_⟩; intro W hSw; (try dsimp only at hSw); go_simp; try with_reducible rfl
             simp only [Act.put, List.setIfInBounds_toArray, List.set_cons_zero, List.set_cons_succ]
             refine wpAnyH_take (i := 21) (oi := ?aq_21) (v := ?bq_21) ?cq_21 (by kernel_rfl) (by kernel_rfl) (by kernel_rfl) ?eq_21 ?dq_21 hH0 ?_
             case cq_21 => simp only [List.getElem?_toArray]; rfl
             case eq_21 => exact fun _ _ _ h => h
             case dq_21 => refine Or.inl ⟨by rfl, ?_⟩; intro W hSw; (try dsimp only at hSw); go_simp; try with_reducible rfl
             simp only [Act.put, List.setIfInBounds_toArray, List.set_cons_zero, List.set_cons_succ]
             refine wpAnyH_take (i := 22) (oi := ?aq_22) (v := ?bq_22) ?cq_22 (by kernel_rfl) (by kernel_rfl) (by kernel_rfl) ?eq_22 ?dq_22 hH0 ?_
             case cq_22 => simp only [List.getElem?_toArray]; rfl
             case eq_22 => exact fun _ _ _ h => h
             case dq_22 => refine Or.inl ⟨by rfl, ?_⟩; intro W hSw; (try dsimp only at hSw); go_simp; try with_reducible rfl
             simp only [Act.put, List.setIfInBounds_toArray, List.set_cons_zero, List.set_cons_succ]
             refine wpAnyH_take (i := 23) (oi := ?aq_23) (v := ?bq_23) ?cq_23 (by kernel_rfl) (by kernel_rfl) (by kernel_rfl) ?eq_23 ?dq_23 hH0 ?_
             case cq_23 => simp only [List.getElem?_toArray]; rfl
             case eq_23 => exact fun _ _ _ h => h
             case dq_23 => refine Or.inl ⟨by rfl, ?_⟩; intro W hSw; (try dsimp only at hSw); go_simp; try with_reducible rfl
             simp only [Act.put, List.setIfInBounds_toArray, List.set_cons_zero, List.set_cons_succ]
             refine wpAnyH_take (i := 24) (oi := ?aq_24) (v := ?bq_24) ?cq_24 (by kernel_rfl) (by kernel_rfl) (by kernel_rfl) ?eq_24 ?dq_24 hH0 ?_
             case cq_24 => simp only [List.getElem?_toArray]; rfl
             case eq_24 => exact fun _ _ _ h => h
             case dq_24 => refine Or.inl ⟨by rfl, ?_⟩; intro W hSw; (try dsimp only at hSw); go_simp; try with_reducible rfl
             simp only [Act.put, List.setIfInBounds_toArray, List.set_cons_zero, List.set_cons_succ]
             refine wpAnyH_take (i := 25) (oi := ?aq_25) (v := ?bq_25) ?cq_25 (by kernel_rfl) (by kernel_rfl) (by kernel_rfl) ?eq_25 ?dq_25 hH0 ?_
             case cq_25 => simp only [List.getElem?_toArray]; rfl
             case eq_25 => exact fun _ _ _ h => h
             case dq_25 => refine Or.inl ⟨by rfl, ?_⟩; intro W hSw; (try dsimp only at hSw); go_simp; try with_reducible rfl
             simp only [Act.put, List.setIfInBounds_toArray, List.set_cons_zero, List.set_cons_succ]
             refine wpAnyH_take (i := 26) (oi := ?aq_26) (v := ?bq_26) ?cq_26 (by kernel_rfl) (by kernel_rfl) (by kernel_rfl) ?eq_26 ?dq_26 hH0 ?_
             case cq_26 => simp only [List.getElem?_toArray]; rfl
             case eq_26 => exact fun _ _ _ h => h
             case dq_26 => refine Or.inl ⟨by rfl, ?_⟩; intro W hSw; (try dsimp only at hSw); go_simp; try with_reducible rfl
             simp only [Act.put, List.setIfInBounds_toArray, List.set_cons_zero, List.set_cons_succ]
             refine wpAnyH_take (i := 27) (oi := ?aq_27) (v := ?bq_27) ?cq_27 (by kernel_rfl) (by kernel_rfl) (by kernel_rfl) ?eq_27 ?dq_27 hH0 ?_
             case cq_27 => simp only [List.getElem?_toArray]; rfl
             case eq_27 => exact fun _ _ _ h => h
             case dq_27 => refine Or.inl ⟨by rfl, ?_⟩; intro W hSw; (try dsimp only at hSw); go_simp; try with_reducible rfl
             simp only [Act.put, List.setIfInBounds_toArray, List.set_cons_zero, List.set_cons_succ]
             refine wpAnyH_take (i := 28) (oi := ?aq_28) (v := ?bq_28) ?cq_28 (by kernel_rfl) (by kernel_rfl) (by kernel_rfl) ?eq_28 ?dq_28 hH0 ?_
             case cq_28 => simp only [List.getElem?_toArray]; rfl
             case eq_28 => exact fun _ _ _ h => h
             case dq_28 => refine Or.inl ⟨by rfl, ?_⟩; intro W hSw; (try dsimp only at hSw); go_simp; try with_reducible rfl
             simp only [Act.put, List.setIfInBounds_toArray, List.set_cons_zero, List.set_cons_succ]
             refine wpAnyH_take (i := 29) (oi := ?aq_29) (v := ?bq_29) ?cq_29 (by kernel_rfl) (by kernel_rfl) (by kernel_rfl) ?eq_29 ?dq_29 hH0 ?_
             case cq_29 => simp only [List.getElem?_toArray]; rfl
             case eq_29 => exact fun _ _ _ h => h
             case dq_29 => refine Or.inl ⟨by rfl, ?_⟩; intro W hSw; (try dsimp only at hSw); go_simp; try with_reducible rfl
             simp only [Act.put, List.setIfInBounds_toArray, List.set_cons_zero, List.set_cons_succ]
             refine wpAnyH_take (i := 30) (oi := ?aq_30) (v := ?bq_30) ?cq_30 (by kernel_rfl) (by kernel_rfl) (by kernel_rfl) ?eq_30 ?dq_30 hH0 ?_
             case cq_30 => simp only [List.getElem?_toArray]; rfl
             case eq_30 => exact fun _ _ _ h => h
             case dq_30 => refine Or.inl ⟨by rfl, ?_⟩; intro W hSw; (try dsimp only at hSw); go_simp; try with_reducible rfl
             simp only [Act.put, List.setIfInBounds_toArray, List.set_cons_zero, List.set_cons_succ]
             refine wpAnyH_take (i := 31) (oi := ?aq_31) (v := ?bq_31) ?cq_31 (by kernel_rfl) (by kernel_rfl) (by kernel_rfl) ?eq_31 ?dq_31 hH0 ?_
             case cq_31 => simp only [List.getElem?_toArray]; rfl
             case eq_31 => exact fun _ _ _ h => h
             case dq_31 => refine Or.inl ⟨by rfl, ?_⟩; intro W hSw; (try dsimp only at hSw); go_simp; try with_reducible rfl
             simp only [Act.put, List.setIfInBounds_toArray, List.set_cons_zero, List.set_cons_succ]
             refine wpAnyH_take (i := 32) (oi := ?aq_32) (v := ?bq_32) ?cq_32 (by kernel_rfl) (by kernel_rfl) (by kernel_rfl) ?eq_32 ?dq_32 hH0 ?_
             case cq_32 => simp only [List.getElem?_toArray]; rfl
             case eq_32 => exact fun _ _ _ h => h
             case dq_32 => refine Or.inl ⟨by rfl, ?_⟩; intro W hSw; (try dsimp only at hSw); go_simp; try with_reducible rfl
             simp only [Act.put, List.setIfInBounds_toArray, List.set_cons_zero, List.set_cons_succ]
             refine wpAnyH_take (i := 33) (oi := ?aq_33) (v := ?bq_33) ?cq_33 (by kernel_rfl) (by kernel_rfl) (by kernel_rfl) ?eq_33 ?dq_33 hH0 ?_
             case cq_33 => simp only [List.getElem?_toArray]; rfl
             case eq_33 => exact fun _ _ _ h => h
             case dq_33 => refine Or.inl ⟨by rfl, ?_⟩; intro W hSw; (try dsimp only at hSw); go_simp; try with_reducible rfl
             simp only [Act.put, List.setIfInBounds_toArray, List.set_cons_zero, List.set_cons_succ]
             refine wpAnyH_take (i := 34) (oi := ?aq_34) (v := ?bq_34) ?cq_34 (by kernel_rfl) (by kernel_rfl) (by kernel_rfl) ?eq_34 ?dq_34 hH0 ?_
             case cq_34 => simp only [List.getElem?_toArray]; rfl
             case eq_34 => exact fun _ _ _ h => h
             case dq_34 => refine Or.inl ⟨by rfl, ?_⟩; intro W hSw; (try dsimp only at hSw); go_simp; try with_reducible rfl
             simp only [Act.put, List.setIfInBounds_toArray, List.set_cons_zero, List.set_cons_succ]
             refine wpAnyH_take (i := 35) (oi := ?aq_35) (v := ?bq_35) ?cq_35 (by kernel_rfl) (by kernel_rfl) (by kernel_rfl) ?eq_35 ?dq_35 hH0 ?_
             case cq_35 => simp only [List.getElem?_toArray]; rfl
             case eq_35 => exact fun _ _ _ h => h
             case dq_35 => refine Or.inl ⟨by rfl, ?_⟩; intro W hSw; (try dsimp only at hSw); go_simp; try with_reducible rfl
             simp only [Act.put, List.setIfInBounds_toArray, List.set_cons_zero, List.set_cons_succ]
             refine wpAnyH_take (i := 36) (oi := ?aq_36) (v := ?bq_36) ?cq_36 (by kernel_rfl) (by kernel_rfl) (by kernel_rfl) ?eq_36 ?dq_36 hH0 ?_
             case cq_36 => simp only [List.getElem?_toArray]; rfl
             case eq_36 => exact fun _ _ _ h => h
             case dq_36 => refine Or.inl ⟨by rfl, ?_⟩; intro W hSw; (try dsimp only at hSw); go_simp; try with_reducible rfl
             simp only [Act.put, List.setIfInBounds_toArray, List.set_cons_zero, List.set_cons_succ]
             refine wpAnyH_take (i := 37) (oi := ?aq_37) (v := ?bq_37) ?cq_37 (by kernel_rfl) (by kernel_rfl) (by kernel_rfl) ?eq_37 ?dq_37 hH0 ?_
             case cq_37 => simp only [List.getElem?_toArray]; rfl
             case eq_37 => exact fun _ _ _ h => h
             case dq_37 => refine Or.inl ⟨by rfl, ?_⟩; intro W hSw; (try dsimp only at hSw); go_simp; try with_reducible rfl
             simp only [Act.put, List.setIfInBounds_toArray, List.set_cons_zero, List.set_cons_succ]
             refine wpAnyH_take (i := 38) (oi := ?aq_38) (v := ?bq_38) ?cq_38 (by kernel_rfl) (by kernel_rfl) (by kernel_rfl) ?eq_38 ?dq_38 hH0 ?_
             case cq_38 => simp only [List.getElem?_toArray]; rfl
             case eq_38 => exact fun _ _ _ h => h
             case dq_38 => refine Or.inl ⟨by rfl, ?_⟩; intro W hSw; (try dsimp only at hSw); go_simp; try with_reducible rfl
             simp only [Act.put, List.setIfInBounds_toArray, List.set_cons_zero, List.set_cons_succ]
             refine wpAnyH_take (i := 39) (oi := ?aq_39) (v := ?bq_39) ?cq_39 (by kernel_rfl) (by kernel_rfl) (by kernel_rfl) ?eq_39 ?dq_39 hH0 ?_
             case cq_39 => simp only [List.getElem?_toArray]; rfl
             case eq_39 => exact fun _ _ _ h => h
             case dq_39 => refine Or.inl ⟨by rfl, ?_⟩; intro W hSw; (try dsimp only at hSw); go_simp; try with_reducible rfl
             simp only [Act.put, List.setIfInBounds_toArray, List.set_cons_zero, List.set_cons_succ]
             refine wpAnyH_take (i := 40) (oi := ?aq_40) (v := ?bq_40) ?cq_40 (by kernel_rfl) (by kernel_rfl) (by kernel_rfl) ?eq_40 ?dq_40 hH0 ?_
             case cq_40 => simp only [List.getElem?_toArray]; rfl
             case eq_40 => exact fun _ _ _ h => h
             case dq_40 => refine Or.inl ⟨by rfl, ?_⟩; intro W hSw; (try dsimp only at hSw); go_simp; try with_reducible rfl
             simp only [Act.put, List.setIfInBounds_toArray, List.set_cons_zero, List.set_cons_succ]
             refine wpAnyH_take (i := 41) (oi := ?aq_41) (v := ?bq_41) ?cq_41 (by kernel_rfl) (by kernel_rfl) (by kernel_rfl) ?eq_41 ?dq_41 hH0 ?_
             case cq_41 => simp only [List.getElem?_toArray]; rfl
             case eq_41 => exact fun _ _ _ h => h
             case dq_41 => refine Or.inl ⟨by rfl, ?_⟩; intro W hSw; (try dsimp only at hSw); go_simp; try with_reducible rfl
             simp only [Act.put, List.setIfInBounds_toArray, List.set_cons_zero, List.set_cons_succ]
             refine wpAnyH_take (i := 42) (oi := ?aq_42) (v := ?bq_42) ?cq_42 (by kernel_rfl) (by kernel_rfl) (by kernel_rfl) ?eq_42 ?dq_42 hH0 ?_
             case cq_42 => simp only [List.getElem?_toArray]; rfl
             case eq_42 => exact fun _ _ _ h => h
             case dq_42 => refine Or.inl ⟨by rfl, ?_⟩; intro W hSw; (try dsimp only at hSw); go_simp; try with_reducible rfl
             simp only [Act.put, List.setIfInBounds_toArray, List.set_cons_zero, List.set_cons_succ]
             refine wpAnyH_take (i := 43) (oi := ?aq_43) (v := ?bq_43) ?cq_43 (by kernel_rfl) (by kernel_rfl) (by kernel_rfl) ?eq_43 ?dq_43 hH0 ?_
             case cq_43 => simp only [List.getElem?_toArray]; rfl
             case eq_43 => exact fun _ _ _ h => h
             case dq_43 => refine Or.inl ⟨by rfl, ?_⟩; intro W hSw; (try dsimp only at hSw); go_simp; try with_reducible rfl
             simp only [Act.put, List.setIfInBounds_toArray, List.set_cons_zero, List.set_cons_succ]
             refine wpAnyH_take (i := 44) (oi := ?aq_44) (v := ?bq_44) ?cq_44 (by kernel_rfl) (by kernel_rfl) (by kernel_rfl) ?eq_44 ?dq_44 hH0 ?_
             case cq_44 => simp only [List.getElem?_toArray]; rfl
             case eq_44 => exact fun _ _ _ h => h
             case dq_44 => refine Or.inl ⟨by rfl, ?_⟩; intro W hSw; (try dsimp only at hSw); go_simp; try with_reducible rfl
             simp only [Act.put, List.setIfInBounds_toArray, List.set_cons_zero, List.set_cons_succ]
             refine wpAnyH_take (i := 45) (oi := ?aq_45) (v := ?bq_45) ?cq_45 (by kernel_rfl) (by kernel_rfl) (by kernel_rfl) ?eq_45 ?dq_45 hH0 ?_
             case cq_45 => simp only [List.getElem?_toArray]; rfl
             case eq_45 => exact fun _ _ _ h => h
             case dq_45 => refine Or.inl ⟨by rfl, ?_⟩; intro W hSw; (try dsimp only at hSw); go_simp; try with_reducible rfl
             simp only [Act.put, List.setIfInBounds_toArray, List.set_cons_zero, List.set_cons_succ]
             refine wpAnyH_take (i := 46) (oi := ?aq_46) (v := ?bq_46) ?cq_46 (by kernel_rfl) (by kernel_rfl) (by kernel_rfl) ?eq_46 ?dq_46 hH0 ?_
             case cq_46 => simp only [List.getElem?_toArray]; rfl
             case eq_46 => exact fun _ _ _ h => h
             case dq_46 => refine Or.inl ⟨by rfl, ?_⟩; intro W hSw; (try dsimp only at hSw); go_simp; try with_reducible rfl
             simp only [Act.put, List.setIfInBounds_toArray, List.set_cons_zero, List.set_cons_succ]
             refine wpAnyH_take (i := 47) (oi := ?aq_47) (v := ?bq_47) ?cq_47 (by kernel_rfl) (by kernel_rfl) (by kernel_rfl) ?eq_47 ?dq_47 hH0 ?_
             case cq_47 => simp only [List.getElem?_toArray]; rfl
             case eq_47 => exact fun _ _ _ h => h
             case dq_47 => refine Or.inl ⟨by rfl, ?_⟩; intro W hSw; (try dsimp only at hSw); go_simp; try with_reducible rfl
             simp only [Act.put, List.setIfInBounds_toArray, List.set_cons_zero, List.set_cons_succ]
             refine wpAnyH_take (i := 48) (oi := ?aq_48) (v := ?bq_48) ?cq_48 (by kernel_rfl) (by kernel_rfl) (by kernel_rfl) ?eq_48 ?dq_48 hH0 ?_
             case cq_48 => simp only [List.getElem?_toArray]; rfl
             case eq_48 => exact fun _ _ _ h => h
             case dq_48 => refine Or.inl ⟨by rfl, ?_⟩; intro W hSw; (try dsimp only at hSw); go_simp; try with_reducible rfl
             simp only [Act.put, List.setIfInBounds_toArray, List.set_cons_zero, List.set_cons_succ]
             refine wpAnyH_take (i := 49) (oi := ?aq_49) (v := ?bq_49) ?cq_49 (by kernel_rfl) (by kernel_rfl) (by kernel_rfl) ?eq_49 ?dq_49 hH0 ?_
             case cq_49 => simp only [List.getElem?_toArray]; rfl
             case eq_49 => exact fun _ _ _ h => h
             case dq_49 => refine Or.inl ⟨by rfl, ?_⟩; intro W hSw; (try dsimp only at hSw); go_simp; try with_reducible rfl
             simp only [Act.put, List.setIfInBounds_toArray, List.set_cons_zero, List.set_cons_succ]
             refine wpAnyH_take (i := 50) (oi := ?aq_50) (v := ?bq_50) ?cq_50 (by kernel_rfl) (by kernel_rfl) (by kernel_rfl) ?eq_50 ?dq_50 hH0 ?_
             case cq_50 => simp only [List.getElem?_toArray]; rfl
             case eq_50 => exact fun _ _ _ h => h
             case dq_50 => refine Or.inl ⟨by rfl, ?_⟩; intro W hSw; (try dsimp only at hSw); go_simp; try with_reducible rfl
             simp only [Act.put, List.setIfInBounds_toArray, List.set_cons_zero, List.set_cons_succ]
             refine wpAnyH_take (i := 51) (oi := ?aq_51) (v := ?bq_51) ?cq_51 (by kernel_rfl) (by kernel_rfl) (by kernel_rfl) ?eq_51 ?dq_51 hH0 ?_
             case cq_51 => simp only [List.getElem?_toArray]; rfl
             case eq_51 => exact fun _ _ _ h => h
             case dq_51 => refine Or.inl ⟨by rfl, ?_⟩; intro W hSw; (try dsimp only at hSw); go_simp; try with_reducible rfl
             simp only [Act.put, List.setIfInBounds_toArray, List.set_cons_zero, List.set_cons_succ]
             refine wpAnyH_take (i := 52) (oi := ?aq_52) (v := ?bq_52) ?cq_52 (by kernel_rfl) (by kernel_rfl) (by kernel_rfl) ?eq_52 ?dq_52 hH0 ?_
             case cq_52 => simp only [List.getElem?_toArray]; rfl
             case eq_52 => exact fun _ _ _ h => h
             case dq_52 => refine Or.inl ⟨by rfl, ?_⟩; intro W hSw; (try dsimp only at hSw); go_simp; try with_reducible rfl
             simp only [Act.put, List.setIfInBounds_toArray, List.set_cons_zero, List.set_cons_succ]
             refine wpAnyH_take (i := 53) (oi := ?aq_53) (v := ?bq_53) ?cq_53 (by kernel_rfl) (by kernel_rfl) (by kernel_rfl) ?eq_53 ?dq_53 hH0 ?_
             case cq_53 => simp only [List.getElem?_toArray]; rfl
             case eq_53 => exact fun _ _ _ h => h
             case dq_53 => refine Or.inl ⟨by rfl, ?_⟩; intro W hSw; (try dsimp only at hSw); go_simp; try with_reducible rfl
             simp only [Act.put, List.setIfInBounds_toArray, List.set_cons_zero, List.set_cons_succ]
             refine wpAnyH_take (i := 54) (oi := ?aq_54) (v := ?bq_54) ?cq_54 (by kernel_rfl) (by kernel_rfl) (by kernel_rfl) ?eq_54 ?dq_54 hH0 ?_
             case cq_54 => simp only [List.getElem?_toArray]; rfl
             case eq_54 => exact fun _ _ _ h => h
             case dq_54 => refine Or.inl ⟨by rfl, ?_⟩; intro W hSw; (try dsimp only at hSw); go_simp; try with_reducible rfl
             simp only [Act.put, List.setIfInBounds_toArray, List.set_cons_zero, List.set_cons_succ]
             refine wpAnyH_take (i := 55) (oi := ?aq_55) (v := ?bq_55) ?cq_55 (by kernel_rfl) (by kernel_rfl) (by kernel_rfl) ?eq_55 ?dq_55 hH0 ?_
             case cq_55 => simp only [List.getElem?_toArray]; rfl
             case eq_55 => exact fun _ _ _ h => h
             case dq_55 => refine Or.inl ⟨by rfl, ?_⟩; intro W hSw; (try dsimp only at hSw); go_simp; try with_reducible rfl
             simp only [Act.put, List.setIfInBounds_toArray, List.set_cons_zero, List.set_cons_succ]
             refine wpAnyH_take (i := 56) (oi := ?aq_56) (v := ?bq_56) ?cq_56 (by kernel_rfl) (by kernel_rfl) (by kernel_rfl) ?eq_56 ?dq_56 hH0 ?_
             case cq_56 => simp only [List.getElem?_toArray]; rfl
             case eq_56 => exact fun _ _ _ h => h
             case dq_56 => refine Or.inl ⟨by rfl, ?_⟩; intro W hSw; (try dsimp only at hSw); go_simp; try with_reducible rfl
             simp only [Act.put, List.setIfInBounds_toArray, List.set_cons_zero, List.set_cons_succ]
             refine wpAnyH_take (i := 57) (oi := ?aq_57) (v := ?bq_57) ?cq_57 (by kernel_rfl) (by kernel_rfl) (by kernel_rfl) ?eq_57 ?dq_57 hH0 ?_
             case cq_57 => simp only [List.getElem?_toArray]; rfl
             case eq_57 => exact fun _ _ _ h => h
             case dq_57 => refine Or.inl ⟨by rfl, ?_⟩; intro W hSw; (try dsimp only at hSw); go_simp; try with_reducible rfl
             simp only [Act.put, List.setIfInBounds_toArray, List.set_cons_zero, List.set_cons_succ]
             refine wpAnyH_take (i := 58) (oi := ?aq_58) (v := ?bq_58) ?cq_58 (by kernel_rfl) (by kernel_rfl) (by kernel_rfl) ?eq_58 ?dq_58 hH0 ?_
             case cq_58 => simp only [List.getElem?_toArray]; rfl
             case eq_58 => exact fun _ _ _ h => h
             case dq_58 => refine Or.inl ⟨by rfl, ?_⟩; intro W hSw; (try dsimp only at hSw); go_simp; try with_reducible rfl
             simp only [Act.put, List.setIfInBounds_toArray, List.set_cons_zero, List.set_cons_succ]
             refine wpAnyH_take (i := 59) (oi := ?aq_59) (v := ?bq_59) ?cq_59 (by kernel_rfl) (by kernel_rfl) (by kernel_rfl) ?eq_59 ?dq_59 hH0 ?_
             case cq_59 => simp only [List.getElem?_toArray]; rfl
             case eq_59 => exact fun _ _ _ h => h
             case dq_59 => refine Or.inl ⟨by rfl, ?_⟩; intro W hSw; (try dsimp only at hSw); go_simp; try with_reducible rfl
             simp only [Act.put, List.setIfInBounds_toArray, List.set_cons_zero, List.set_cons_succ]
             refine wpAnyH_take (i := 60) (oi := ?aq_60) (v := ?bq_60) ?cq_60 (by kernel_rfl) (by kernel_rfl) (by kernel_rfl) ?eq_60 ?dq_60 hH0 ?_
             case cq_60 => simp only [List.getElem?_toArray]; rfl
             case eq_60 => exact fun _ _ _ h => h
             case dq_60 => refine Or.inl ⟨by rfl, ?_⟩; intro W hSw; (try dsimp only at hSw); go_simp; try with_reducible rfl
             simp only [Act.put, List.setIfInBounds_toArray, List.set_cons_zero, List.set_cons_succ]
             refine wpAnyH_take (i := 61) (oi := ?aq_61) (v := ?bq_61) ?cq_61 (by kernel_rfl) (by kernel_rfl) (by kernel_rfl) ?eq_61 ?dq_61 hH0 ?_
             case cq_61 => simp only [List.getElem?_toArray]; rfl
             case eq_61 => exact fun _ _ _ h => h
             case dq_61 => refine Or.inl ⟨by rfl, ?_⟩; intro W hSw; (try dsimp only at hSw); go_simp; try with_reducible rfl
             simp only [Act.put, List.setIfInBounds_toArray, List.set_cons_zero, List.set_cons_succ]
             refine wpAnyH_take (i := 62) (oi := ?aq_62) (v := ?bq_62) ?cq_62 (by kernel_rfl) (by kernel_rfl) (by kernel_rfl) ?eq_62 ?dq_62 hH0 ?_
             case cq_62 => simp only [List.getElem?_toArray]; rfl
             case eq_62 => exact fun _ _ _ h => h
             case dq_62 => refine Or.inl ⟨by rfl, ?_⟩; intro W hSw; (try dsimp only at hSw); go_simp; try with_reducible rfl
             simp only [Act.put, List.setIfInBounds_toArray, List.set_cons_zero, List.set_cons_succ]
             refine wpAnyH_take (i := 63) (oi := ?aq_63) (v := ?bq_63) ?cq_63 (by kernel_rfl) (by kernel_rfl) (by kernel_rfl) ?eq_63 ?dq_63 hH0 ?_
             case cq_63 => simp only [List.getElem?_toArray]; rfl
             case eq_63 => exact fun _ _ _ h => h
             case dq_63 => refine Or.inl ⟨by rfl, ?_⟩; intro W hSw; (try dsimp only at hSw); go_simp; try with_reducible rfl
             simp only [Act.put, List.setIfInBounds_toArray, List.set_cons_zero, List.set_cons_succ]
             refine wpAnyH_take (i := 64) (oi := ?aq_64) (v := ?bq_64) ?cq_64 (by kernel_rfl) (by kernel_rfl) (by kernel_rfl) ?eq_64 ?dq_64 hH0 ?_
             case cq_64 => simp only [List.getElem?_toArray]; rfl
             case eq_64 => exact fun _ _ _ h => h
             case dq_64 => refine Or.inl ⟨by rfl, ?_⟩; intro W hSw; (try dsimp only at hSw); go_simp; try with_reducible rfl
             simp only [Act.put, List.setIfInBounds_toArray, List.set_cons_zero, List.set_cons_succ]
             refine wpAnyH_take (i := 65) (oi := ?aq_65) (v := ?bq_65) ?cq_65 (by kernel_rfl) (by kernel_rfl) (by kernel_rfl) ?eq_65 ?dq_65 hH0 ?_
             case cq_65 => simp only [List.getElem?_toArray]; rfl
             case eq_65 => exact fun _ _ _ h => h
             case dq_65 => refine Or.inl ⟨by rfl, ?_⟩; intro W hSw; (try dsimp only at hSw); go_simp; try with_reducible rfl
             simp only [Act.put, List.setIfInBounds_toArray, List.set_cons_zero, List.set_cons_succ]
             refine wpAnyH_done (by kernel_rfl) ?_ _
             go_wp2
             all_goals go_meet
             all_goals
              case rel => exact .inr ⟨rfl, by omega, rfl⟩
    case rest =>
     rcases hcut with ⟨rfl, hng, rfl⟩ | ⟨rfl, hgd, rfl⟩
     ·have HNG := Lib.hid hng
      clear hng
      go_wp2_with fail
      go_ret
      refine ⟨ret_bool ?_, bw.drew⟩
      rw [Hb.out]
      exact (rightB_no fun h => HNG.out (by have := Hstep.out.1 (h.ok k hlt); omega)).symm
     ·obtain ⟨w1, w2, w3, w4, w5, w6, w7⟩ := hgd
      go_wp2_with fail
      go_loopw [2, 4] (fun _ t4 wl => ∃ j : Nat, j ≤ k ∧ t4 = .int .i64 j ∧ (∀ i, (hi : i < V.chain.length) → i < j → V.chain[i] ≠ ci) ∧ Below wr.heap.size wr wl) (fun _ t4 _ => k - (intOf t4).toNat)
      case atStart => exact ⟨0, Nat.zero_le _, rfl, fun i _ h => absurd h (by omega), (Below.refl _ _).drew⟩
      case round =>
       rename_i wl0
       obtain ⟨j, hj, rfl, hno, hbl⟩ := hrel
       have HNO := Lib.hid hno
       clear hno
       have bx2 := below_more bx hz hbl
       obtain ⟨y0, y1, y2, y3⟩ := box4 bx2
       have hcj := (hbl.cell (p := ⟨b1, o1 + k, none⟩) (World.block_lt_of_cell? _ _ hc1)).trans hc1
       by_cases hjk : j < k
       ·have hjl : j < V.chain.length := by omega
        obtain ⟨b1', o1', q1', he1', _, _, hcj2⟩ := (H1.out.keep (below_one' bx2) hB).get j hjl
        injection he1' with e1 e2 e3
        injection e1 with e1
        injection e1 with e1 e4 _
        subst e1 e4
        clear e2 e3
        obtain ⟨cj, hcje⟩ : ∃ x, V.chain[j] = x := ⟨_, rfl⟩
        rw [hcje] at hcj2
        have HCJ := Lib.hid hcje
        clear hcje
        have i5 : (0 : Int) ≤ (j : Int) := by omega
        have i6 : (j : Int) < (V.chain.length : Int) := by omega
        have i7 : (j : Int) < (k : Int) := by omega
        by_cases hcc : cj = ci
        ·have g : (cj == ci) = true := by rw [beq_iff_eq]; exact hcc
         have HCC := Lib.hid hcc
         clear hcc
         go_wp2_with fail
         go_quiet (fail)
         go_wp2_with fail
         go_ret
         refine ⟨ret_bool ?_, below_drewN (below_one' bx2) _⟩
         rw [Hb.out]
         refine (rightB_no fun h => ?_).symm
         refine (Hstep.out.1 (h.ok k hlt)).2.2.1 ?_
         rw [← HCC.out, ← HCJ.out]
         exact List.mem_take_iff_getElem.2 ⟨j, by omega, rfl⟩
        ·have g : (cj == ci) = false := by rw [beq_eq_false_iff_ne]; exact hcc
         have HCC := Lib.hid hcc
         clear hcc
         go_wp2_with fail
         go_quiet (fail)
         go_wp2_with fail
         go_roundw
         case rel =>
          refine ⟨j + 1, by omega, by go_num, fun i hi hij => ?_, below_drewN hbl _⟩
          by_cases e : i = j
          ·subst e; rw [HCJ.out]; exact HCC.out
          ·exact HNO.out i hi (by omega)
         case measure => simp [intOf]; omega
       ·have g : ¬ ((j : Int) < (k : Int)) := by omega
        have hnot : ci ∉ V.chain.take k := by
         intro hm
         obtain ⟨i, hi, e⟩ := List.mem_take_iff_getElem.1 hm
         exact HNO.out i (by omega) (by omega) e
        have HN := Lib.hid hnot
        clear hnot
        go_wp2_with fail
        go_roundw
        case rel =>
         refine ⟨k + 1, by omega, by go_num, fun i hi => ?_, bx2⟩
         rcases Nat.lt_or_ge i k with h | h
         ·exact Hok.out i h
         ·obtain rfl : i = k := by omega
          exact Hstep.out.2 ⟨by omega, by omega, HN.out, by omega, by omega, by omega, by omega, by omega⟩
        case measure => simp [intOf]; omega
   ·have g : ¬ ((k : Int) < (V.chain.length : Int)) := by omega
    go_wp2_with fail
    go_ret
    refine ⟨ret_bool ?_, bw⟩
    rw [Hb.out]
    exact (rightB_of ⟨p1, p2, p3, p4, P5.out, P6.out, fun i hi => Hok.out i (by omega)⟩).symm
 ·have hn : b = false := by rw [Hb.out]; exact rightB_no (fun h => hpre ⟨h.e1, h.e2, h.n1, h.n2, h.s, h.b⟩)
  subst hn
  go_enter Tryd.func44, Tryd.ntmps44
  go_wp2_with fail
  all_goals first
   | (go_ret; exact ⟨rfl, (Below.refl _ _).alloc (Nat.le_refl _) _⟩)
   | (exfalso; simp only [bne_eq_false_iff_eq] at *; omega)
end Go.Proofs.YtapgjjfndbfnpaaDoor.Vw
