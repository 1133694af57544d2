/-
  The walk of view.Of. Printed by gen_vwof.py of this claim's writer.
-/
import Derived.Test.YtapgjjfndbfnpaaDoorCvM4
import Derived.Deep.DeepCutAuto
namespace Go.Proofs.YtapgjjfndbfnpaaDoor.Vw
open Go.RowKit

theorem fresh_mono' {lo lo' : Nat} {v : Value} (h : FreshV lo v) (hl : lo' ≤ lo) : FreshV lo' v := by
  obtain ⟨e, c, s, b, rfl, h1, h2, h3⟩ := h
  exact ⟨e, c, s, b, rfl, fun j hj => Nat.le_trans hl (h1 j hj), fun j hj => Nat.le_trans hl (h2 j hj), fun j hj => Nat.le_trans hl (h3 j hj)⟩
theorem own_set_ne {base : Nat} {e : TypeId} {size : Nat} {v : Value} {n : Nat} {xs : List Value} {w : World} (h : w.ownsRow base e size v n xs) (b o : Nat) (hb : v.ownBlock ≠ some b) (x : Value) : (w.setCell ⟨b, o, none⟩ x).ownsRow base e size v n xs := by
  obtain ⟨h1, h2⟩ := h
  refine ⟨h1, ?_⟩
  rcases h2 with h2 | ⟨g, cap, cur, rfl, hg, hh, r⟩
  · exact Or.inl h2
  · refine Or.inr ⟨g, cap, cur, rfl, hg, ?_, r⟩
    rw [← hh]
    simp only [World.setCell]
    rw [Array.getElem?_modify, if_neg (fun e => hb (by rw [e]; rfl))]
theorem own_set4_ne {base : Nat} {e : TypeId} {size : Nat} {v : Value} {n : Nat} {xs : List Value} {w : World} (h : w.ownsRow base e size v n xs) (g : Nat) (hb : v.ownBlock ≠ some g) (v0 v1 v2 v3 : Value) :
    ((((w.setCell ⟨g, 0, none⟩ v0).setCell ⟨g, 1, none⟩ v1).setCell ⟨g, 2, none⟩ v2).setCell ⟨g, 3, none⟩ v3).ownsRow base e size v n xs :=
  own_set_ne (own_set_ne (own_set_ne (own_set_ne h g 0 hb v0) g 1 hb v1) g 2 hb v2) g 3 hb v3

set_option maxRecDepth 100000 in
set_option maxHeartbeats 3200000 in
theorem of_true (B : Nat) (v : Value) (V : VW) (w : World) (h : IsView B w v V) (hB : B ≤ w.heap.size) (hsm' : SmallV V) (hb : rightB V = true) :
    Calls Tryd.prog 54 #[v] w fun e w' => ∃ vw, e = .returned (.tuple #[vw, .bool true]) ∧ IsView w'.heap.size w' vw V ∧ Below w.heap.size w w' ∧ FreshV w.heap.size vw := by
  have hsm := hsm'
  obtain ⟨he, cc, s, bt, rfl, h1, h2, h3⟩ := h
  have H1 := Lib.hid h1
  have H2 := Lib.hid h2
  have H3 := Lib.hid h3
  obtain ⟨a1, k1, rfl⟩ := h1.form
  obtain ⟨a2, k2, rfl⟩ := h2.form
  obtain ⟨a3, k3, rfl⟩ := h3.form
  obtain ⟨s1, s2, s3⟩ := hsm
  have C3 := Lib.hid (fun (w1 : World) (hb1 : Below w.heap.size w w1) => clone_any B _ V.chain w1 (H1.out.keep hb1 hB) (Nat.le_trans hB hb1.size) (by omega))
  have C4 := Lib.hid (fun (w1 : World) (hb1 : Below w.heap.size w w1) => clone_any B _ V.since w1 (H2.out.keep hb1 hB) (Nat.le_trans hB hb1.size) (by omega))
  have C5 := Lib.hid (fun (w1 : World) (hb1 : Below w.heap.size w w1) => clone_any B _ V.boot w1 (H3.out.keep hb1 hB) (Nat.le_trans hB hb1.size) (by omega))
  clear h1 h2 h3
  go_enter Tryd.func54, Tryd.ntmps54
  go_wp2_with fail
  have mkS : ∀ X : World, Below (w.heap.size + 2) ((w.alloc (.cells #[.int .i64 V.epoch, .slice a1 V.chain.length k1, .slice a2 V.since.length k2, .slice a3 V.boot.length k3] 27)).alloc (.cells #[.int .i64 0, .slice none 0 0, .slice none 0 0, .slice none 0 0] 82)) X → X.cell? ⟨w.heap.size, 0, none⟩ = some (.int .i64 V.epoch) ∧ X.cell? ⟨w.heap.size, 1, none⟩ = some (.slice a1 V.chain.length k1) ∧ X.cell? ⟨w.heap.size, 2, none⟩ = some (.slice a2 V.since.length k2) ∧ X.cell? ⟨w.heap.size, 3, none⟩ = some (.slice a3 V.boot.length k3) ∧ w.heap.size + 2 ≤ X.heap.size ∧ Below (w.heap.size + 2) ((w.alloc (.cells #[.int .i64 V.epoch, .slice a1 V.chain.length k1, .slice a2 V.since.length k2, .slice a3 V.boot.length k3] 27)).alloc (.cells #[.int .i64 0, .slice none 0 0, .slice none 0 0, .slice none 0 0] 82)) X := by
    intro X hk'
    obtain ⟨u0, u1, u2, u3⟩ := box_cells hk'
    exact ⟨u0, u1, u2, u3, size_two hk', hk'⟩
  have hh := mkS _ (Below.refl _ ((w.alloc (.cells #[.int .i64 V.epoch, .slice a1 V.chain.length k1, .slice a2 V.since.length k2, .slice a3 V.boot.length k3] 27)).alloc (.cells #[.int .i64 0, .slice none 0 0, .slice none 0 0, .slice none 0 0] 82))).drew
  have low : ∀ X : World, (X.cell? ⟨w.heap.size, 0, none⟩ = some (.int .i64 V.epoch) ∧ X.cell? ⟨w.heap.size, 1, none⟩ = some (.slice a1 V.chain.length k1) ∧ X.cell? ⟨w.heap.size, 2, none⟩ = some (.slice a2 V.since.length k2) ∧ X.cell? ⟨w.heap.size, 3, none⟩ = some (.slice a3 V.boot.length k3) ∧ w.heap.size + 2 ≤ X.heap.size ∧ Below (w.heap.size + 2) ((w.alloc (.cells #[.int .i64 V.epoch, .slice a1 V.chain.length k1, .slice a2 V.since.length k2, .slice a3 V.boot.length k3] 27)).alloc (.cells #[.int .i64 0, .slice none 0 0, .slice none 0 0, .slice none 0 0] 82)) X) → Below w.heap.size w X := fun X h => below_two' h.2.2.2.2.2
  have low2 : ∀ X : World, (X.cell? ⟨w.heap.size, 0, none⟩ = some (.int .i64 V.epoch) ∧ X.cell? ⟨w.heap.size, 1, none⟩ = some (.slice a1 V.chain.length k1) ∧ X.cell? ⟨w.heap.size, 2, none⟩ = some (.slice a2 V.since.length k2) ∧ X.cell? ⟨w.heap.size, 3, none⟩ = some (.slice a3 V.boot.length k3) ∧ w.heap.size + 2 ≤ X.heap.size ∧ Below (w.heap.size + 2) ((w.alloc (.cells #[.int .i64 V.epoch, .slice a1 V.chain.length k1, .slice a2 V.since.length k2, .slice a3 V.boot.length k3] 27)).alloc (.cells #[.int .i64 0, .slice none 0 0, .slice none 0 0, .slice none 0 0] 82)) X) → Below (w.heap.size + 2) ((w.alloc (.cells #[.int .i64 V.epoch, .slice a1 V.chain.length k1, .slice a2 V.since.length k2, .slice a3 V.boot.length k3] 27)).alloc (.cells #[.int .i64 0, .slice none 0 0, .slice none 0 0, .slice none 0 0] 82)) X := fun X h => h.2.2.2.2.2
  have keep : ∀ X X' : World, (X.cell? ⟨w.heap.size, 0, none⟩ = some (.int .i64 V.epoch) ∧ X.cell? ⟨w.heap.size, 1, none⟩ = some (.slice a1 V.chain.length k1) ∧ X.cell? ⟨w.heap.size, 2, none⟩ = some (.slice a2 V.since.length k2) ∧ X.cell? ⟨w.heap.size, 3, none⟩ = some (.slice a3 V.boot.length k3) ∧ w.heap.size + 2 ≤ X.heap.size ∧ Below (w.heap.size + 2) ((w.alloc (.cells #[.int .i64 V.epoch, .slice a1 V.chain.length k1, .slice a2 V.since.length k2, .slice a3 V.boot.length k3] 27)).alloc (.cells #[.int .i64 0, .slice none 0 0, .slice none 0 0, .slice none 0 0] 82)) X) → Below X.heap.size X X' → X'.cell? ⟨w.heap.size, 0, none⟩ = some (.int .i64 V.epoch) ∧ X'.cell? ⟨w.heap.size, 1, none⟩ = some (.slice a1 V.chain.length k1) ∧ X'.cell? ⟨w.heap.size, 2, none⟩ = some (.slice a2 V.since.length k2) ∧ X'.cell? ⟨w.heap.size, 3, none⟩ = some (.slice a3 V.boot.length k3) ∧ w.heap.size + 2 ≤ X'.heap.size ∧ Below (w.heap.size + 2) ((w.alloc (.cells #[.int .i64 V.epoch, .slice a1 V.chain.length k1, .slice a2 V.since.length k2, .slice a3 V.boot.length k3] 27)).alloc (.cells #[.int .i64 0, .slice none 0 0, .slice none 0 0, .slice none 0 0] 82)) X' := fun X X' h k => mkS X' (below_more h.2.2.2.2.2 h.2.2.2.2.1 k)
  go_upto_region 1 with fail
  go_cut [4] (fun s4 wx => ∃ g d1 n1 d2 n2 d3 n3, s4 = .pointer (some ⟨g, 0, none⟩) ∧ w.heap.size + 2 ≤ g ∧ wx.heap[g]? = some (.cells #[.int .i64 V.epoch, .slice d1 V.chain.length n1, .slice d2 V.since.length n2, .slice d3 V.boot.length n3] 82) ∧ IsView wx.heap.size wx (.agg #[.int .i64 V.epoch, .slice d1 V.chain.length n1, .slice d2 V.since.length n2, .slice d3 V.boot.length n3]) V ∧ FreshV (w.heap.size + 2) (.agg #[.int .i64 V.epoch, .slice d1 V.chain.length n1, .slice d2 V.since.length n2, .slice d3 V.boot.length n3]) ∧ Below (w.heap.size + 2) ((w.alloc (.cells #[.int .i64 V.epoch, .slice a1 V.chain.length k1, .slice a2 V.since.length k2, .slice a3 V.boot.length k3] 27)).alloc (.cells #[.int .i64 0, .slice none 0 0, .slice none 0 0, .slice none 0 0] 82)) wx)
  case first =>
    refine region_begin (S := fun X => X.cell? ⟨w.heap.size, 0, none⟩ = some (.int .i64 V.epoch) ∧ X.cell? ⟨w.heap.size, 1, none⟩ = some (.slice a1 V.chain.length k1) ∧ X.cell? ⟨w.heap.size, 2, none⟩ = some (.slice a2 V.since.length k2) ∧ X.cell? ⟨w.heap.size, 3, none⟩ = some (.slice a3 V.boot.length k3) ∧ w.heap.size + 2 ≤ X.heap.size ∧ Below (w.heap.size + 2) ((w.alloc (.cells #[.int .i64 V.epoch, .slice a1 V.chain.length k1, .slice a2 V.since.length k2, .slice a3 V.boot.length k3] 27)).alloc (.cells #[.int .i64 0, .slice none 0 0, .slice none 0 0, .slice none 0 0] 82)) X) 14 rfl (by kernel_rfl) hh (fun hHeld => ?_)
    refine wpAnyH_take (i := 0) (oi := ?oa0) (v := ?va0) ?hia0 (by kernel_rfl) (by kernel_rfl) (by kernel_rfl) ?hQa0 ?hya0 hHeld ?resta0
    case hia0 => simp only [List.getElem?_toArray, List.getElem?_cons_zero]; rfl
    case hQa0 => exact fun _ _ _ h => h
    case hya0 => refine Or.inl ⟨by rfl, ?_⟩; intro W hSw; (try dsimp only at hSw); go_simp; try with_reducible rfl
    simp only [Act.put, List.setIfInBounds_toArray, List.set_cons_zero, List.set_cons_succ]
    refine wpAnyH_take (i := 1) (oi := ?oa1) (v := ?va1) ?hia1 (by kernel_rfl) (by kernel_rfl) (by kernel_rfl) ?hQa1 ?hya1 hHeld ?resta1
    case hia1 => simp only [List.getElem?_toArray, List.getElem?_cons_zero, List.getElem?_cons_succ]; rfl
    case hQa1 => exact fun _ _ _ h => h
    case hya1 => refine Or.inl ⟨by rfl, ?_⟩; intro W hSw; (try dsimp only at hSw); go_simp; try with_reducible rfl
    simp only [Act.put, List.setIfInBounds_toArray, List.set_cons_zero, List.set_cons_succ]
    refine wpAnyH_take (i := 2) (oi := ?oa2) (v := ?va2) ?hia2 (by kernel_rfl) (by kernel_rfl) (by kernel_rfl) ?hQa2 ?hya2 hHeld ?resta2
    case hia2 => simp only [List.getElem?_toArray, List.getElem?_cons_zero, List.getElem?_cons_succ]; rfl
    case hQa2 => exact fun _ _ _ h => h
    case hya2 => refine Or.inl ⟨by rfl, ?_⟩; intro W hSw; (try dsimp only at hSw); go_simp; try with_reducible rfl
    simp only [Act.put, List.setIfInBounds_toArray, List.set_cons_zero, List.set_cons_succ]
    refine wpAnyH_take (i := 3) (oi := ?oa3) (v := ?va3) ?hia3 (by kernel_rfl) (by kernel_rfl) (by kernel_rfl) ?hQa3 ?hya3 hHeld ?resta3
    case hia3 => simp only [List.getElem?_toArray, List.getElem?_cons_zero, List.getElem?_cons_succ]; rfl
    case hQa3 => exact fun _ _ _ h => h
    case hya3 => refine Or.inl ⟨by rfl, ?_⟩; intro W hSw; (try dsimp only at hSw); go_simp; try with_reducible rfl
    simp only [Act.put, List.setIfInBounds_toArray, List.set_cons_zero, List.set_cons_succ]
    refine wpAnyH_take (i := 5) (oi := ?oa5) (v := ?va5) ?hia5 (by kernel_rfl) (by kernel_rfl) (by kernel_rfl) ?hQa5 ?hya5 hHeld ?resta5
    case hia5 => simp only [List.getElem?_toArray, List.getElem?_cons_zero, List.getElem?_cons_succ]; rfl
    case hQa5 => exact fun _ _ _ h => h
    case hya5 => refine Or.inl ⟨by rfl, ?_⟩; intro W hSw; (try dsimp only at hSw); go_simp; try with_reducible rfl
    simp only [Act.put, List.setIfInBounds_toArray, List.set_cons_zero, List.set_cons_succ]
    refine wpAnyH_take (i := 6) (oi := ?oa6) (v := ?va6) ?hia6 (by kernel_rfl) (by kernel_rfl) (by kernel_rfl) ?hQa6 ?hya6 hHeld ?resta6
    case hia6 => simp only [List.getElem?_toArray, List.getElem?_cons_zero, List.getElem?_cons_succ]; rfl
    case hQa6 => exact fun _ _ _ h => h
    case hya6 => refine Or.inl ⟨by rfl, ?_⟩; intro W hSw; (try dsimp only at hSw); go_simp; try with_reducible rfl
    simp only [Act.put, List.setIfInBounds_toArray, List.set_cons_zero, List.set_cons_succ]
    refine wpAnyH_take (i := 8) (oi := ?oa8) (v := ?va8) ?hia8 (by kernel_rfl) (by kernel_rfl) (by kernel_rfl) ?hQa8 ?hya8 hHeld ?resta8
    case hia8 => simp only [List.getElem?_toArray, List.getElem?_cons_zero, List.getElem?_cons_succ]; rfl
    case hQa8 => exact fun _ _ _ h => h
    case hya8 => refine Or.inl ⟨by rfl, ?_⟩; intro W hSw; (try dsimp only at hSw); go_simp; try with_reducible rfl
    simp only [Act.put, List.setIfInBounds_toArray, List.set_cons_zero, List.set_cons_succ]
    refine wpAnyH_take (i := 9) (oi := ?oa9) (v := ?va9) ?hia9 (by kernel_rfl) (by kernel_rfl) (by kernel_rfl) ?hQa9 ?hya9 hHeld ?resta9
    case hia9 => simp only [List.getElem?_toArray, List.getElem?_cons_zero, List.getElem?_cons_succ]; rfl
    case hQa9 => exact fun _ _ _ h => h
    case hya9 => refine Or.inl ⟨by rfl, ?_⟩; intro W hSw; (try dsimp only at hSw); go_simp; try with_reducible rfl
    simp only [Act.put, List.setIfInBounds_toArray, List.set_cons_zero, List.set_cons_succ]
    refine wpAnyH_inv (fun listed a W => ∃ (p : Nat) (q : Bool) (g : Nat) (x4 x9 x12 x15 : Value), listed = #[true, true, true, true, decide (1 ≤ p), true, true, decide (2 ≤ p), true, true, decide (3 ≤ p), false, q, false] ∧ a = { tmps := #[Value.agg #[.int .i64 V.epoch, .slice a1 V.chain.length k1, .slice a2 V.since.length k2, .slice a3 V.boot.length k3], Value.pointer (some ⟨w.heap.size, 0, none⟩), Value.pointer (some ⟨w.heap.size + 1, 0, none⟩), Value.bool false, x4, Value.pointer (some ⟨w.heap.size, 0, none⟩), Value.int .i64 V.epoch, Value.pointer (some ⟨w.heap.size, 1, none⟩), Value.slice a1 V.chain.length k1, x9, Value.pointer (some ⟨w.heap.size, 2, none⟩), Value.slice a2 V.since.length k2, x12, Value.pointer (some ⟨w.heap.size, 3, none⟩), Value.slice a3 V.boot.length k3, x15, undef, undef, undef, undef, undef, undef], defers := [] } ∧ (W.cell? ⟨w.heap.size, 0, none⟩ = some (.int .i64 V.epoch) ∧ W.cell? ⟨w.heap.size, 1, none⟩ = some (.slice a1 V.chain.length k1) ∧ W.cell? ⟨w.heap.size, 2, none⟩ = some (.slice a2 V.since.length k2) ∧ W.cell? ⟨w.heap.size, 3, none⟩ = some (.slice a3 V.boot.length k3) ∧ w.heap.size + 2 ≤ W.heap.size ∧ Below (w.heap.size + 2) ((w.alloc (.cells #[.int .i64 V.epoch, .slice a1 V.chain.length k1, .slice a2 V.since.length k2, .slice a3 V.boot.length k3] 27)).alloc (.cells #[.int .i64 0, .slice none 0 0, .slice none 0 0, .slice none 0 0] 82)) W) ∧ (q = true → x4 = .pointer (some ⟨g, 0, none⟩) ∧ w.heap.size + 2 ≤ g ∧ W.heap[g]? = some (.cells #[.int .i64 0, .slice none 0 0, .slice none 0 0, .slice none 0 0] 82)) ∧ (1 ≤ p → (∃ d m, x9 = .slice d V.chain.length m) ∧ W.ownsRow (w.heap.size + 2) 3 1 x9 V.chain.length (icells V.chain) ∧ (q = true → x9.ownBlock ≠ some g)) ∧ (2 ≤ p → (∃ d m, x12 = .slice d V.since.length m) ∧ W.ownsRow (w.heap.size + 2) 3 1 x12 V.since.length (icells V.since) ∧ (q = true → x12.ownBlock ≠ some g)) ∧ (3 ≤ p → (∃ d m, x15 = .slice d V.boot.length m) ∧ W.ownsRow (w.heap.size + 2) 3 1 x15 V.boot.length (icells V.boot) ∧ (q = true → x15.ownBlock ≠ some g)) ∧ p ≤ 3) ?_ _ _ _ _ ?_ (by kernel_rfl) (by simp)
    · intro listed a W hJ
      obtain ⟨p, q, g, x4, x9, x12, x15, rfl, rfl, hS, hq5, f1, f2, f3, hp3⟩ := hJ
      by_cases hex : p = 3
      · right
        obtain rfl : p = 3 := hex
        obtain ⟨⟨d1, n1, rfl⟩, w1o, w1n⟩ := f1 (by omega)
        obtain ⟨⟨d2, n2, rfl⟩, w2o, w2n⟩ := f2 (by omega)
        obtain ⟨⟨d3, n3, rfl⟩, w3o, w3n⟩ := f3 (by omega)
        clear f1 f2 f3 hp3
        intro m hm
        cases q with
        | true =>
          obtain ⟨rfl, hgl, hgb⟩ := hq5 rfl
          replace w1n := w1n rfl
          replace w2n := w2n rfl
          replace w3n := w3n rfl
          clear hq5
          obtain ⟨m', rfl⟩ : ∃ m', m = m' + 2 := ⟨m - 2, by simp at hm; omega⟩
          clear hm
          refine wpAnyH_take (i := 11) (oi := ?ob11) (v := ?vb11) ?hib11 (by kernel_rfl) (by kernel_rfl) (by kernel_rfl) ?hQb11 ?hyb11 hS ?restb11
          case hib11 => simp only [List.getElem?_toArray, List.getElem?_cons_zero, List.getElem?_cons_succ]; rfl
          case hQb11 => exact fun _ _ _ h => h
          case hyb11 => refine Or.inl ⟨by rfl, ?_⟩; intro W hSw; (try dsimp only at hSw); go_simp; try with_reducible rfl
          simp only [Act.put, List.setIfInBounds_toArray, List.set_cons_zero, List.set_cons_succ]
          obtain ⟨u0, u1, u2, u3⟩ := block_cells hgb
          obtain ⟨fz0, fz1, fz2, fz3⟩ := block_frozen hgb
          refine wpAnyH_ready (rs := [13]) (by kernel_rfl) (by simp) ?_
          refine AllReadyH.cons (o := ?oot) ?hot (fun K' hK => ?_) AllReadyH.nil
          case hot => simp only [List.getElem?_toArray, List.getElem?_cons_zero, List.getElem?_cons_succ]; rfl
          go_simp
          have bxs := below_set4 (low2 _ hS) g hgl (.int .i64 V.epoch) (.slice d1 V.chain.length n1) (.slice d2 V.since.length n2) (.slice d3 V.boot.length n3)
          refine hK.out _ _ (mkS _ bxs) (fun hS2 => ?_)
          clear hK
          refine wpAnyH_done (by kernel_rfl) ?_ _
          have hbs := block_set (block_set (block_set (block_set hgb 0 (.int .i64 V.epoch)) 1 (.slice d1 V.chain.length n1)) 2 (.slice d2 V.since.length n2)) 3 (.slice d3 V.boot.length n3)
          have r1 := own_set4_ne w1o g w1n (.int .i64 V.epoch) (.slice d1 V.chain.length n1) (.slice d2 V.since.length n2) (.slice d3 V.boot.length n3)
          have r2 := own_set4_ne w2o g w2n (.int .i64 V.epoch) (.slice d1 V.chain.length n1) (.slice d2 V.since.length n2) (.slice d3 V.boot.length n3)
          have r3 := own_set4_ne w3o g w3n (.int .i64 V.epoch) (.slice d1 V.chain.length n1) (.slice d2 V.since.length n2) (.slice d3 V.boot.length n3)
          have i1 := own_ints r1 (fun n hn => H1.out.at_.2.2.2.2.1 n hn)
          have i2 := own_ints r2 (fun n hn => H2.out.at_.2.2.2.2.1 n hn)
          have i3 := own_ints r3 (fun n hn => H3.out.at_.2.2.2.2.1 n hn)
          clear hgb u0 u1 u2 u3 fz0 fz1 fz2 fz3
          go_wp2
          all_goals go_meet
          all_goals
            case rel => exact ⟨g, d1, n1, d2, n2, d3, n3, rfl, hgl, hbs, ⟨he, _, _, _, rfl, i1, i2, i3⟩, ⟨_, _, _, _, rfl, fun j hj => (w1o.lt j hj).1, fun j hj => (w2o.lt j hj).1, fun j hj => (w3o.lt j hj).1⟩, bxs⟩
        | false =>
          clear hq5
          obtain ⟨m', rfl⟩ : ∃ m', m = m' + 3 := ⟨m - 3, by simp at hm; omega⟩
          clear hm
          refine wpAnyH_take (i := 11) (oi := ?oc11) (v := ?vc11) ?hic11 (by kernel_rfl) (by kernel_rfl) (by kernel_rfl) ?hQc11 ?hyc11 hS ?restc11
          case hic11 => simp only [List.getElem?_toArray, List.getElem?_cons_zero, List.getElem?_cons_succ]; rfl
          case hQc11 => exact fun _ _ _ h => h
          case hyc11 => refine Or.inl ⟨by rfl, ?_⟩; intro W hSw; (try dsimp only at hSw); go_simp; try with_reducible rfl
          simp only [Act.put, List.setIfInBounds_toArray, List.set_cons_zero, List.set_cons_succ]
          refine wpAnyH_ready (rs := [12]) (by kernel_rfl) (by simp) ?_
          refine AllReadyH.cons (o := ?oo12z) ?ho12z (fun K' hK => ?_) AllReadyH.nil
          case ho12z => simp only [List.getElem?_toArray, List.getElem?_cons_zero, List.getElem?_cons_succ]; rfl
          go_simp
          have hbW : Below W.heap.size W (W.alloc (.cells #[.int .i64 0, .slice none 0 0, .slice none 0 0, .slice none 0 0] 82)) := (Below.refl _ _).alloc (Nat.le_refl _) _
          refine hK.out _ _ (keep _ _ hS hbW) (fun hS1 => ?_)
          clear hK w1n w2n w3n
          have hgb := heap_alloc_new W (.cells #[.int .i64 0, .slice none 0 0, .slice none 0 0, .slice none 0 0] 82)
          have hgl := hS.2.2.2.2.1
          have w1n : (Value.slice d1 V.chain.length n1).ownBlock ≠ some W.heap.size := fun hg => by have := (w1o.lt _ hg).2; omega
          have w2n : (Value.slice d2 V.since.length n2).ownBlock ≠ some W.heap.size := fun hg => by have := (w2o.lt _ hg).2; omega
          have w3n : (Value.slice d3 V.boot.length n3).ownBlock ≠ some W.heap.size := fun hg => by have := (w3o.lt _ hg).2; omega
          replace w1o := own_below hbW w1o
          replace w2o := own_below hbW w2o
          replace w3o := own_below hbW w3o
          clear hbW hS
          generalize W.heap.size = g at hgb hgl w1n w2n w3n ⊢
          generalize W.alloc (.cells #[.int .i64 0, .slice none 0 0, .slice none 0 0, .slice none 0 0] 82) = W1 at hgb w1o w2o w3o hS1 ⊢
          have hS := hS1
          clear hS1
          obtain ⟨u0, u1, u2, u3⟩ := block_cells hgb
          obtain ⟨fz0, fz1, fz2, fz3⟩ := block_frozen hgb
          refine wpAnyH_ready (rs := [13]) (by kernel_rfl) (by simp) ?_
          refine AllReadyH.cons (o := ?oof) ?hof (fun K' hK => ?_) AllReadyH.nil
          case hof => simp only [List.getElem?_toArray, List.getElem?_cons_zero, List.getElem?_cons_succ]; rfl
          go_simp
          have bxs := below_set4 (low2 _ hS) g hgl (.int .i64 V.epoch) (.slice d1 V.chain.length n1) (.slice d2 V.since.length n2) (.slice d3 V.boot.length n3)
          refine hK.out _ _ (mkS _ bxs) (fun hS2 => ?_)
          clear hK
          refine wpAnyH_done (by kernel_rfl) ?_ _
          have hbs := block_set (block_set (block_set (block_set hgb 0 (.int .i64 V.epoch)) 1 (.slice d1 V.chain.length n1)) 2 (.slice d2 V.since.length n2)) 3 (.slice d3 V.boot.length n3)
          have r1 := own_set4_ne w1o g w1n (.int .i64 V.epoch) (.slice d1 V.chain.length n1) (.slice d2 V.since.length n2) (.slice d3 V.boot.length n3)
          have r2 := own_set4_ne w2o g w2n (.int .i64 V.epoch) (.slice d1 V.chain.length n1) (.slice d2 V.since.length n2) (.slice d3 V.boot.length n3)
          have r3 := own_set4_ne w3o g w3n (.int .i64 V.epoch) (.slice d1 V.chain.length n1) (.slice d2 V.since.length n2) (.slice d3 V.boot.length n3)
          have i1 := own_ints r1 (fun n hn => H1.out.at_.2.2.2.2.1 n hn)
          have i2 := own_ints r2 (fun n hn => H2.out.at_.2.2.2.2.1 n hn)
          have i3 := own_ints r3 (fun n hn => H3.out.at_.2.2.2.2.1 n hn)
          clear hgb u0 u1 u2 u3 fz0 fz1 fz2 fz3
          go_wp2
          all_goals go_meet
          all_goals
            case rel => exact ⟨g, d1, n1, d2, n2, d3, n3, rfl, hgl, hbs, ⟨he, _, _, _, rfl, i1, i2, i3⟩, ⟨_, _, _, _, rfl, fun j hj => (w1o.lt j hj).1, fun j hj => (w2o.lt j hj).1, fun j hj => (w3o.lt j hj).1⟩, bxs⟩
      · left
        refine ⟨?_, fun i hi => ?_⟩
        · rcases (by omega : p = 0 ∨ p = 1 ∨ p = 2) with rfl | rfl | rfl
          all_goals (cases q <;> decide +kernel)
        · obtain ⟨h0, o, ho, hall⟩ := mem_ready.1 hi
          have hlt : i < 14 := by
            rcases Nat.lt_or_ge i 14 with h | h
            · exact h
            · rw [Array.getElem?_eq_none (by simpa using h)] at ho; cases ho
          rcases (by omega : i = 0 ∨ i = 1 ∨ i = 2 ∨ i = 3 ∨ i = 4 ∨ i = 5 ∨ i = 6 ∨ i = 7 ∨ i = 8 ∨ i = 9 ∨ i = 10 ∨ i = 11 ∨ i = 12 ∨ i = 13) with rfl | rfl | rfl | rfl | rfl | rfl | rfl | rfl | rfl | rfl | rfl | rfl | rfl | rfl
          · cases h0
          · cases h0
          · cases h0
          · cases h0
          · have hp0 : p = 0 := by
              have h1 : decide (1 ≤ p) = false := h0
              simp only [decide_eq_false_iff_not] at h1
              omega
            subst hp0
            refine wpOp_step (o := ?oo4) ?ho4 (fun K' hK => ?_)
            case ho4 => simp only [List.getElem?_toArray, List.getElem?_cons_zero, List.getElem?_cons_succ]; rfl
            have HK := Lib.hid hK
            clear hK
            go_simp
            refine (C3.out W (low _ hS)).mono ?_
            rintro e W' ⟨v', rfl, ow, hbW⟩
            have hzW : w.heap.size + 2 ≤ W.heap.size := hS.2.2.2.2.1
            have hS' := keep _ _ hS hbW
            exact HK.out _ _ ⟨hS', 1, q, g, x4, v', x12, x15, rfl, rfl, hS', (fun hq => ⟨(hq5 hq).1, (hq5 hq).2.1, (hbW.block g (Array.getElem?_eq_some_iff.1 (hq5 hq).2.2).1).trans (hq5 hq).2.2⟩), (fun _ => ⟨own_form ow, own_base (by omega) ow, fun hq hg => by have h1 := (ow.lt g hg).1; have h2 := (Array.getElem?_eq_some_iff.1 (hq5 hq).2.2).1; omega⟩), (fun h => absurd h (by omega)), (fun h => absurd h (by omega)), by omega⟩
          · cases h0
          · cases h0
          · simp only [List.getElem?_toArray, List.getElem?_cons_succ, List.getElem?_cons_zero, Option.some.injEq] at ho
            subst ho
            have hp0 : p = 1 := by
              have h1 : decide (2 ≤ p) = false := h0
              have h2 : decide (1 ≤ p) = true := hall ⟨4, .chain⟩ (by simp) rfl
              simp only [decide_eq_false_iff_not, decide_eq_true_eq] at h1 h2
              omega
            subst hp0
            refine wpOp_step (o := ?oo7) ?ho7 (fun K' hK => ?_)
            case ho7 => simp only [List.getElem?_toArray, List.getElem?_cons_zero, List.getElem?_cons_succ]; rfl
            have HK := Lib.hid hK
            clear hK
            go_simp
            refine (C4.out W (low _ hS)).mono ?_
            rintro e W' ⟨v', rfl, ow, hbW⟩
            have hzW : w.heap.size + 2 ≤ W.heap.size := hS.2.2.2.2.1
            have hS' := keep _ _ hS hbW
            exact HK.out _ _ ⟨hS', 2, q, g, x4, x9, v', x15, rfl, rfl, hS', (fun hq => ⟨(hq5 hq).1, (hq5 hq).2.1, (hbW.block g (Array.getElem?_eq_some_iff.1 (hq5 hq).2.2).1).trans (hq5 hq).2.2⟩), (fun _ => ⟨(f1 (by omega)).1, own_below hbW (f1 (by omega)).2.1, (f1 (by omega)).2.2⟩), (fun _ => ⟨own_form ow, own_base (by omega) ow, fun hq hg => by have h1 := (ow.lt g hg).1; have h2 := (Array.getElem?_eq_some_iff.1 (hq5 hq).2.2).1; omega⟩), (fun h => absurd h (by omega)), by omega⟩
          · cases h0
          · cases h0
          · simp only [List.getElem?_toArray, List.getElem?_cons_succ, List.getElem?_cons_zero, Option.some.injEq] at ho
            subst ho
            have hp0 : p = 2 := by
              have h1 : decide (3 ≤ p) = false := h0
              have h2 : decide (2 ≤ p) = true := hall ⟨7, .chain⟩ (by simp) rfl
              simp only [decide_eq_false_iff_not, decide_eq_true_eq] at h1 h2
              omega
            subst hp0
            refine wpOp_step (o := ?oo10) ?ho10 (fun K' hK => ?_)
            case ho10 => simp only [List.getElem?_toArray, List.getElem?_cons_zero, List.getElem?_cons_succ]; rfl
            have HK := Lib.hid hK
            clear hK
            go_simp
            refine (C5.out W (low _ hS)).mono ?_
            rintro e W' ⟨v', rfl, ow, hbW⟩
            have hzW : w.heap.size + 2 ≤ W.heap.size := hS.2.2.2.2.1
            have hS' := keep _ _ hS hbW
            exact HK.out _ _ ⟨hS', 3, q, g, x4, x9, x12, v', rfl, rfl, hS', (fun hq => ⟨(hq5 hq).1, (hq5 hq).2.1, (hbW.block g (Array.getElem?_eq_some_iff.1 (hq5 hq).2.2).1).trans (hq5 hq).2.2⟩), (fun _ => ⟨(f1 (by omega)).1, own_below hbW (f1 (by omega)).2.1, (f1 (by omega)).2.2⟩), (fun _ => ⟨(f2 (by omega)).1, own_below hbW (f2 (by omega)).2.1, (f2 (by omega)).2.2⟩), (fun _ => ⟨own_form ow, own_base (by omega) ow, fun hq hg => by have h1 := (ow.lt g hg).1; have h2 := (Array.getElem?_eq_some_iff.1 (hq5 hq).2.2).1; omega⟩), by omega⟩
          · simp only [List.getElem?_toArray, List.getElem?_cons_succ, List.getElem?_cons_zero, Option.some.injEq] at ho
            subst ho
            have h2 : decide (3 ≤ p) = true := hall ⟨10, .data⟩ (by simp) rfl
            rw [decide_eq_true_eq] at h2
            omega
          · have hq : q = false := h0
            subst hq
            refine wpOp_step (o := ?oo12) ?ho12 (fun K' hK => ?_)
            case ho12 => simp only [List.getElem?_toArray, List.getElem?_cons_zero, List.getElem?_cons_succ]; rfl
            have HK := Lib.hid hK
            clear hK
            go_simp
            have hbW : Below W.heap.size W (W.alloc (.cells #[.int .i64 0, .slice none 0 0, .slice none 0 0, .slice none 0 0] 82)) := (Below.refl _ _).alloc (Nat.le_refl _) _
            have hS' := keep _ _ hS hbW
            exact HK.out _ _ ⟨hS', p, true, W.heap.size, (.pointer (some ⟨W.heap.size, 0, none⟩)), x9, x12, x15, rfl, rfl, hS', (fun _ => ⟨rfl, hS.2.2.2.2.1, heap_alloc_new _ _⟩), (fun hp => ⟨(f1 hp).1, own_below hbW (f1 hp).2.1, fun _ hg => by have := ((f1 hp).2.1.lt _ hg).2; omega⟩), (fun hp => ⟨(f2 hp).1, own_below hbW (f2 hp).2.1, fun _ hg => by have := ((f2 hp).2.1.lt _ hg).2; omega⟩), (fun hp => ⟨(f3 hp).1, own_below hbW (f3 hp).2.1, fun _ hg => by have := ((f3 hp).2.1.lt _ hg).2; omega⟩), by omega⟩
          · simp only [List.getElem?_toArray, List.getElem?_cons_succ, List.getElem?_cons_zero, Option.some.injEq] at ho
            subst ho
            have h2 : false = true := hall ⟨11, .data⟩ (by simp) rfl
            cases h2
    · exact ⟨0, false, 0, undef, undef, undef, undef, rfl, rfl, hHeld, (fun h => by cases h), (fun h => absurd h (by omega)), (fun h => absurd h (by omega)), (fun h => absurd h (by omega)), by omega⟩
  case rest =>
    obtain ⟨g, d1, n1, d2, n2, d3, n3, rfl, hgl, hgb, hvx, hfx, bxe⟩ := hcut
    obtain ⟨u0, u1, u2, u3⟩ := block_cells hgb
    have HVX := Lib.hid hvx
    clear hvx
    go_wp2_with fail
    refine (right_any _ _ V _ HVX.out (Nat.le_refl _) hsm' true hb.symm).mono ?_
    rintro e w9 ⟨rfl, hb9⟩
    have hgl2 := (Array.getElem?_eq_some_iff.1 hgb).1
    have hgb9 := (hb9.block g hgl2).trans hgb
    obtain ⟨u0, u1, u2, u3⟩ := block_cells hgb9
    have bx9 := below_more bxe (size_two bxe) hb9
    have hr9 := res_block bx9
    obtain ⟨z0, z1, z2, z3⟩ := block_cells hr9
    obtain ⟨fz0, fz1, fz2, fz3⟩ := block_frozen hr9
    clear hgb hgb9
    go_wp2_with fail
    (try simp only [Exit.inBlock, Exit.then])
    have hr9' := res_block bx9
    refine bodyPost_ret (ret_cell4 rfl _ _ _ _ _ _ _ _ _ _ _ _ _ (by rfl) hr9' Tryd.underlying82 rfl vinfo) rfl ?_
    have k := view_set4 ((HVX.out.keep hb9 (Nat.le_refl _)).up hb9.size) hfx (w.heap.size + 1) (by omega) (.int .i64 V.epoch) (.slice d1 V.chain.length n1) (.slice d2 V.since.length n2) (.slice d3 V.boot.length n3)
    refine ⟨_, rfl, by simpa using k, below_set4 (below_two' bx9) _ (by omega) _ _ _ _, fresh_mono' hfx (by omega)⟩

set_option maxRecDepth 100000 in
set_option maxHeartbeats 3200000 in
theorem of_false (B : Nat) (v : Value) (V : VW) (w : World) (h : IsView B w v V) (hB : B ≤ w.heap.size) (hsm' : SmallV V) (hb : rightB V = false) :
    Calls Tryd.prog 54 #[v] w fun e w' => ∃ vw, e = .returned (.tuple #[vw, .bool false]) ∧ IsView w'.heap.size w' vw zeroV ∧ Below w.heap.size w w' ∧ FreshV w.heap.size vw := by
  have hsm := hsm'
  obtain ⟨he, cc, s, bt, rfl, h1, h2, h3⟩ := h
  have H1 := Lib.hid h1
  have H2 := Lib.hid h2
  have H3 := Lib.hid h3
  obtain ⟨a1, k1, rfl⟩ := h1.form
  obtain ⟨a2, k2, rfl⟩ := h2.form
  obtain ⟨a3, k3, rfl⟩ := h3.form
  obtain ⟨s1, s2, s3⟩ := hsm
  have C3 := Lib.hid (fun (w1 : World) (hb1 : Below w.heap.size w w1) => clone_any B _ V.chain w1 (H1.out.keep hb1 hB) (Nat.le_trans hB hb1.size) (by omega))
  have C4 := Lib.hid (fun (w1 : World) (hb1 : Below w.heap.size w w1) => clone_any B _ V.since w1 (H2.out.keep hb1 hB) (Nat.le_trans hB hb1.size) (by omega))
  have C5 := Lib.hid (fun (w1 : World) (hb1 : Below w.heap.size w w1) => clone_any B _ V.boot w1 (H3.out.keep hb1 hB) (Nat.le_trans hB hb1.size) (by omega))
  clear h1 h2 h3
  go_enter Tryd.func54, Tryd.ntmps54
  go_wp2_with fail
  have mkS : ∀ X : World, Below (w.heap.size + 2) ((w.alloc (.cells #[.int .i64 V.epoch, .slice a1 V.chain.length k1, .slice a2 V.since.length k2, .slice a3 V.boot.length k3] 27)).alloc (.cells #[.int .i64 0, .slice none 0 0, .slice none 0 0, .slice none 0 0] 82)) X → X.cell? ⟨w.heap.size, 0, none⟩ = some (.int .i64 V.epoch) ∧ X.cell? ⟨w.heap.size, 1, none⟩ = some (.slice a1 V.chain.length k1) ∧ X.cell? ⟨w.heap.size, 2, none⟩ = some (.slice a2 V.since.length k2) ∧ X.cell? ⟨w.heap.size, 3, none⟩ = some (.slice a3 V.boot.length k3) ∧ w.heap.size + 2 ≤ X.heap.size ∧ Below (w.heap.size + 2) ((w.alloc (.cells #[.int .i64 V.epoch, .slice a1 V.chain.length k1, .slice a2 V.since.length k2, .slice a3 V.boot.length k3] 27)).alloc (.cells #[.int .i64 0, .slice none 0 0, .slice none 0 0, .slice none 0 0] 82)) X := by
    intro X hk'
    obtain ⟨u0, u1, u2, u3⟩ := box_cells hk'
    exact ⟨u0, u1, u2, u3, size_two hk', hk'⟩
  have hh := mkS _ (Below.refl _ ((w.alloc (.cells #[.int .i64 V.epoch, .slice a1 V.chain.length k1, .slice a2 V.since.length k2, .slice a3 V.boot.length k3] 27)).alloc (.cells #[.int .i64 0, .slice none 0 0, .slice none 0 0, .slice none 0 0] 82))).drew
  have low : ∀ X : World, (X.cell? ⟨w.heap.size, 0, none⟩ = some (.int .i64 V.epoch) ∧ X.cell? ⟨w.heap.size, 1, none⟩ = some (.slice a1 V.chain.length k1) ∧ X.cell? ⟨w.heap.size, 2, none⟩ = some (.slice a2 V.since.length k2) ∧ X.cell? ⟨w.heap.size, 3, none⟩ = some (.slice a3 V.boot.length k3) ∧ w.heap.size + 2 ≤ X.heap.size ∧ Below (w.heap.size + 2) ((w.alloc (.cells #[.int .i64 V.epoch, .slice a1 V.chain.length k1, .slice a2 V.since.length k2, .slice a3 V.boot.length k3] 27)).alloc (.cells #[.int .i64 0, .slice none 0 0, .slice none 0 0, .slice none 0 0] 82)) X) → Below w.heap.size w X := fun X h => below_two' h.2.2.2.2.2
  have low2 : ∀ X : World, (X.cell? ⟨w.heap.size, 0, none⟩ = some (.int .i64 V.epoch) ∧ X.cell? ⟨w.heap.size, 1, none⟩ = some (.slice a1 V.chain.length k1) ∧ X.cell? ⟨w.heap.size, 2, none⟩ = some (.slice a2 V.since.length k2) ∧ X.cell? ⟨w.heap.size, 3, none⟩ = some (.slice a3 V.boot.length k3) ∧ w.heap.size + 2 ≤ X.heap.size ∧ Below (w.heap.size + 2) ((w.alloc (.cells #[.int .i64 V.epoch, .slice a1 V.chain.length k1, .slice a2 V.since.length k2, .slice a3 V.boot.length k3] 27)).alloc (.cells #[.int .i64 0, .slice none 0 0, .slice none 0 0, .slice none 0 0] 82)) X) → Below (w.heap.size + 2) ((w.alloc (.cells #[.int .i64 V.epoch, .slice a1 V.chain.length k1, .slice a2 V.since.length k2, .slice a3 V.boot.length k3] 27)).alloc (.cells #[.int .i64 0, .slice none 0 0, .slice none 0 0, .slice none 0 0] 82)) X := fun X h => h.2.2.2.2.2
  have keep : ∀ X X' : World, (X.cell? ⟨w.heap.size, 0, none⟩ = some (.int .i64 V.epoch) ∧ X.cell? ⟨w.heap.size, 1, none⟩ = some (.slice a1 V.chain.length k1) ∧ X.cell? ⟨w.heap.size, 2, none⟩ = some (.slice a2 V.since.length k2) ∧ X.cell? ⟨w.heap.size, 3, none⟩ = some (.slice a3 V.boot.length k3) ∧ w.heap.size + 2 ≤ X.heap.size ∧ Below (w.heap.size + 2) ((w.alloc (.cells #[.int .i64 V.epoch, .slice a1 V.chain.length k1, .slice a2 V.since.length k2, .slice a3 V.boot.length k3] 27)).alloc (.cells #[.int .i64 0, .slice none 0 0, .slice none 0 0, .slice none 0 0] 82)) X) → Below X.heap.size X X' → X'.cell? ⟨w.heap.size, 0, none⟩ = some (.int .i64 V.epoch) ∧ X'.cell? ⟨w.heap.size, 1, none⟩ = some (.slice a1 V.chain.length k1) ∧ X'.cell? ⟨w.heap.size, 2, none⟩ = some (.slice a2 V.since.length k2) ∧ X'.cell? ⟨w.heap.size, 3, none⟩ = some (.slice a3 V.boot.length k3) ∧ w.heap.size + 2 ≤ X'.heap.size ∧ Below (w.heap.size + 2) ((w.alloc (.cells #[.int .i64 V.epoch, .slice a1 V.chain.length k1, .slice a2 V.since.length k2, .slice a3 V.boot.length k3] 27)).alloc (.cells #[.int .i64 0, .slice none 0 0, .slice none 0 0, .slice none 0 0] 82)) X' := fun X X' h k => mkS X' (below_more h.2.2.2.2.2 h.2.2.2.2.1 k)
  go_upto_region 1 with fail
  go_cut [4] (fun s4 wx => ∃ g d1 n1 d2 n2 d3 n3, s4 = .pointer (some ⟨g, 0, none⟩) ∧ w.heap.size + 2 ≤ g ∧ wx.heap[g]? = some (.cells #[.int .i64 V.epoch, .slice d1 V.chain.length n1, .slice d2 V.since.length n2, .slice d3 V.boot.length n3] 82) ∧ IsView wx.heap.size wx (.agg #[.int .i64 V.epoch, .slice d1 V.chain.length n1, .slice d2 V.since.length n2, .slice d3 V.boot.length n3]) V ∧ FreshV (w.heap.size + 2) (.agg #[.int .i64 V.epoch, .slice d1 V.chain.length n1, .slice d2 V.since.length n2, .slice d3 V.boot.length n3]) ∧ Below (w.heap.size + 2) ((w.alloc (.cells #[.int .i64 V.epoch, .slice a1 V.chain.length k1, .slice a2 V.since.length k2, .slice a3 V.boot.length k3] 27)).alloc (.cells #[.int .i64 0, .slice none 0 0, .slice none 0 0, .slice none 0 0] 82)) wx)
  case first =>
    refine region_begin (S := fun X => X.cell? ⟨w.heap.size, 0, none⟩ = some (.int .i64 V.epoch) ∧ X.cell? ⟨w.heap.size, 1, none⟩ = some (.slice a1 V.chain.length k1) ∧ X.cell? ⟨w.heap.size, 2, none⟩ = some (.slice a2 V.since.length k2) ∧ X.cell? ⟨w.heap.size, 3, none⟩ = some (.slice a3 V.boot.length k3) ∧ w.heap.size + 2 ≤ X.heap.size ∧ Below (w.heap.size + 2) ((w.alloc (.cells #[.int .i64 V.epoch, .slice a1 V.chain.length k1, .slice a2 V.since.length k2, .slice a3 V.boot.length k3] 27)).alloc (.cells #[.int .i64 0, .slice none 0 0, .slice none 0 0, .slice none 0 0] 82)) X) 14 rfl (by kernel_rfl) hh (fun hHeld => ?_)
    refine wpAnyH_take (i := 0) (oi := ?oa0) (v := ?va0) ?hia0 (by kernel_rfl) (by kernel_rfl) (by kernel_rfl) ?hQa0 ?hya0 hHeld ?resta0
    case hia0 => simp only [List.getElem?_toArray, List.getElem?_cons_zero]; rfl
    case hQa0 => exact fun _ _ _ h => h
    case hya0 => refine Or.inl ⟨by rfl, ?_⟩; intro W hSw; (try dsimp only at hSw); go_simp; try with_reducible rfl
    simp only [Act.put, List.setIfInBounds_toArray, List.set_cons_zero, List.set_cons_succ]
    refine wpAnyH_take (i := 1) (oi := ?oa1) (v := ?va1) ?hia1 (by kernel_rfl) (by kernel_rfl) (by kernel_rfl) ?hQa1 ?hya1 hHeld ?resta1
    case hia1 => simp only [List.getElem?_toArray, List.getElem?_cons_zero, List.getElem?_cons_succ]; rfl
    case hQa1 => exact fun _ _ _ h => h
    case hya1 => refine Or.inl ⟨by rfl, ?_⟩; intro W hSw; (try dsimp only at hSw); go_simp; try with_reducible rfl
    simp only [Act.put, List.setIfInBounds_toArray, List.set_cons_zero, List.set_cons_succ]
    refine wpAnyH_take (i := 2) (oi := ?oa2) (v := ?va2) ?hia2 (by kernel_rfl) (by kernel_rfl) (by kernel_rfl) ?hQa2 ?hya2 hHeld ?resta2
    case hia2 => simp only [List.getElem?_toArray, List.getElem?_cons_zero, List.getElem?_cons_succ]; rfl
    case hQa2 => exact fun _ _ _ h => h
    case hya2 => refine Or.inl ⟨by rfl, ?_⟩; intro W hSw; (try dsimp only at hSw); go_simp; try with_reducible rfl
    simp only [Act.put, List.setIfInBounds_toArray, List.set_cons_zero, List.set_cons_succ]
    refine wpAnyH_take (i := 3) (oi := ?oa3) (v := ?va3) ?hia3 (by kernel_rfl) (by kernel_rfl) (by kernel_rfl) ?hQa3 ?hya3 hHeld ?resta3
    case hia3 => simp only [List.getElem?_toArray, List.getElem?_cons_zero, List.getElem?_cons_succ]; rfl
    case hQa3 => exact fun _ _ _ h => h
    case hya3 => refine Or.inl ⟨by rfl, ?_⟩; intro W hSw; (try dsimp only at hSw); go_simp; try with_reducible rfl
    simp only [Act.put, List.setIfInBounds_toArray, List.set_cons_zero, List.set_cons_succ]
    refine wpAnyH_take (i := 5) (oi := ?oa5) (v := ?va5) ?hia5 (by kernel_rfl) (by kernel_rfl) (by kernel_rfl) ?hQa5 ?hya5 hHeld ?resta5
    case hia5 => simp only [List.getElem?_toArray, List.getElem?_cons_zero, List.getElem?_cons_succ]; rfl
    case hQa5 => exact fun _ _ _ h => h
    case hya5 => refine Or.inl ⟨by rfl, ?_⟩; intro W hSw; (try dsimp only at hSw); go_simp; try with_reducible rfl
    simp only [Act.put, List.setIfInBounds_toArray, List.set_cons_zero, List.set_cons_succ]
    refine wpAnyH_take (i := 6) (oi := ?oa6) (v := ?va6) ?hia6 (by kernel_rfl) (by kernel_rfl) (by kernel_rfl) ?hQa6 ?hya6 hHeld ?resta6
    case hia6 => simp only [List.getElem?_toArray, List.getElem?_cons_zero, List.getElem?_cons_succ]; rfl
    case hQa6 => exact fun _ _ _ h => h
    case hya6 => refine Or.inl ⟨by rfl, ?_⟩; intro W hSw; (try dsimp only at hSw); go_simp; try with_reducible rfl
    simp only [Act.put, List.setIfInBounds_toArray, List.set_cons_zero, List.set_cons_succ]
    refine wpAnyH_take (i := 8) (oi := ?oa8) (v := ?va8) ?hia8 (by kernel_rfl) (by kernel_rfl) (by kernel_rfl) ?hQa8 ?hya8 hHeld ?resta8
    case hia8 => simp only [List.getElem?_toArray, List.getElem?_cons_zero, List.getElem?_cons_succ]; rfl
    case hQa8 => exact fun _ _ _ h => h
    case hya8 => refine Or.inl ⟨by rfl, ?_⟩; intro W hSw; (try dsimp only at hSw); go_simp; try with_reducible rfl
    simp only [Act.put, List.setIfInBounds_toArray, List.set_cons_zero, List.set_cons_succ]
    refine wpAnyH_take (i := 9) (oi := ?oa9) (v := ?va9) ?hia9 (by kernel_rfl) (by kernel_rfl) (by kernel_rfl) ?hQa9 ?hya9 hHeld ?resta9
    case hia9 => simp only [List.getElem?_toArray, List.getElem?_cons_zero, List.getElem?_cons_succ]; rfl
    case hQa9 => exact fun _ _ _ h => h
    case hya9 => refine Or.inl ⟨by rfl, ?_⟩; intro W hSw; (try dsimp only at hSw); go_simp; try with_reducible rfl
    simp only [Act.put, List.setIfInBounds_toArray, List.set_cons_zero, List.set_cons_succ]
    refine wpAnyH_inv (fun listed a W => ∃ (p : Nat) (q : Bool) (g : Nat) (x4 x9 x12 x15 : Value), listed = #[true, true, true, true, decide (1 ≤ p), true, true, decide (2 ≤ p), true, true, decide (3 ≤ p), false, q, false] ∧ a = { tmps := #[Value.agg #[.int .i64 V.epoch, .slice a1 V.chain.length k1, .slice a2 V.since.length k2, .slice a3 V.boot.length k3], Value.pointer (some ⟨w.heap.size, 0, none⟩), Value.pointer (some ⟨w.heap.size + 1, 0, none⟩), Value.bool false, x4, Value.pointer (some ⟨w.heap.size, 0, none⟩), Value.int .i64 V.epoch, Value.pointer (some ⟨w.heap.size, 1, none⟩), Value.slice a1 V.chain.length k1, x9, Value.pointer (some ⟨w.heap.size, 2, none⟩), Value.slice a2 V.since.length k2, x12, Value.pointer (some ⟨w.heap.size, 3, none⟩), Value.slice a3 V.boot.length k3, x15, undef, undef, undef, undef, undef, undef], defers := [] } ∧ (W.cell? ⟨w.heap.size, 0, none⟩ = some (.int .i64 V.epoch) ∧ W.cell? ⟨w.heap.size, 1, none⟩ = some (.slice a1 V.chain.length k1) ∧ W.cell? ⟨w.heap.size, 2, none⟩ = some (.slice a2 V.since.length k2) ∧ W.cell? ⟨w.heap.size, 3, none⟩ = some (.slice a3 V.boot.length k3) ∧ w.heap.size + 2 ≤ W.heap.size ∧ Below (w.heap.size + 2) ((w.alloc (.cells #[.int .i64 V.epoch, .slice a1 V.chain.length k1, .slice a2 V.since.length k2, .slice a3 V.boot.length k3] 27)).alloc (.cells #[.int .i64 0, .slice none 0 0, .slice none 0 0, .slice none 0 0] 82)) W) ∧ (q = true → x4 = .pointer (some ⟨g, 0, none⟩) ∧ w.heap.size + 2 ≤ g ∧ W.heap[g]? = some (.cells #[.int .i64 0, .slice none 0 0, .slice none 0 0, .slice none 0 0] 82)) ∧ (1 ≤ p → (∃ d m, x9 = .slice d V.chain.length m) ∧ W.ownsRow (w.heap.size + 2) 3 1 x9 V.chain.length (icells V.chain) ∧ (q = true → x9.ownBlock ≠ some g)) ∧ (2 ≤ p → (∃ d m, x12 = .slice d V.since.length m) ∧ W.ownsRow (w.heap.size + 2) 3 1 x12 V.since.length (icells V.since) ∧ (q = true → x12.ownBlock ≠ some g)) ∧ (3 ≤ p → (∃ d m, x15 = .slice d V.boot.length m) ∧ W.ownsRow (w.heap.size + 2) 3 1 x15 V.boot.length (icells V.boot) ∧ (q = true → x15.ownBlock ≠ some g)) ∧ p ≤ 3) ?_ _ _ _ _ ?_ (by kernel_rfl) (by simp)
    · intro listed a W hJ
      obtain ⟨p, q, g, x4, x9, x12, x15, rfl, rfl, hS, hq5, f1, f2, f3, hp3⟩ := hJ
      by_cases hex : p = 3
      · right
        obtain rfl : p = 3 := hex
        obtain ⟨⟨d1, n1, rfl⟩, w1o, w1n⟩ := f1 (by omega)
        obtain ⟨⟨d2, n2, rfl⟩, w2o, w2n⟩ := f2 (by omega)
        obtain ⟨⟨d3, n3, rfl⟩, w3o, w3n⟩ := f3 (by omega)
        clear f1 f2 f3 hp3
        intro m hm
        cases q with
        | true =>
          obtain ⟨rfl, hgl, hgb⟩ := hq5 rfl
          replace w1n := w1n rfl
          replace w2n := w2n rfl
          replace w3n := w3n rfl
          clear hq5
          obtain ⟨m', rfl⟩ : ∃ m', m = m' + 2 := ⟨m - 2, by simp at hm; omega⟩
          clear hm
          refine wpAnyH_take (i := 11) (oi := ?ob11) (v := ?vb11) ?hib11 (by kernel_rfl) (by kernel_rfl) (by kernel_rfl) ?hQb11 ?hyb11 hS ?restb11
          case hib11 => simp only [List.getElem?_toArray, List.getElem?_cons_zero, List.getElem?_cons_succ]; rfl
          case hQb11 => exact fun _ _ _ h => h
          case hyb11 => refine Or.inl ⟨by rfl, ?_⟩; intro W hSw; (try dsimp only at hSw); go_simp; try with_reducible rfl
          simp only [Act.put, List.setIfInBounds_toArray, List.set_cons_zero, List.set_cons_succ]
          obtain ⟨u0, u1, u2, u3⟩ := block_cells hgb
          obtain ⟨fz0, fz1, fz2, fz3⟩ := block_frozen hgb
          refine wpAnyH_ready (rs := [13]) (by kernel_rfl) (by simp) ?_
          refine AllReadyH.cons (o := ?oot) ?hot (fun K' hK => ?_) AllReadyH.nil
          case hot => simp only [List.getElem?_toArray, List.getElem?_cons_zero, List.getElem?_cons_succ]; rfl
          go_simp
          have bxs := below_set4 (low2 _ hS) g hgl (.int .i64 V.epoch) (.slice d1 V.chain.length n1) (.slice d2 V.since.length n2) (.slice d3 V.boot.length n3)
          refine hK.out _ _ (mkS _ bxs) (fun hS2 => ?_)
          clear hK
          refine wpAnyH_done (by kernel_rfl) ?_ _
          have hbs := block_set (block_set (block_set (block_set hgb 0 (.int .i64 V.epoch)) 1 (.slice d1 V.chain.length n1)) 2 (.slice d2 V.since.length n2)) 3 (.slice d3 V.boot.length n3)
          have r1 := own_set4_ne w1o g w1n (.int .i64 V.epoch) (.slice d1 V.chain.length n1) (.slice d2 V.since.length n2) (.slice d3 V.boot.length n3)
          have r2 := own_set4_ne w2o g w2n (.int .i64 V.epoch) (.slice d1 V.chain.length n1) (.slice d2 V.since.length n2) (.slice d3 V.boot.length n3)
          have r3 := own_set4_ne w3o g w3n (.int .i64 V.epoch) (.slice d1 V.chain.length n1) (.slice d2 V.since.length n2) (.slice d3 V.boot.length n3)
          have i1 := own_ints r1 (fun n hn => H1.out.at_.2.2.2.2.1 n hn)
          have i2 := own_ints r2 (fun n hn => H2.out.at_.2.2.2.2.1 n hn)
          have i3 := own_ints r3 (fun n hn => H3.out.at_.2.2.2.2.1 n hn)
          clear hgb u0 u1 u2 u3 fz0 fz1 fz2 fz3
          go_wp2
          all_goals go_meet
          all_goals
            case rel => exact ⟨g, d1, n1, d2, n2, d3, n3, rfl, hgl, hbs, ⟨he, _, _, _, rfl, i1, i2, i3⟩, ⟨_, _, _, _, rfl, fun j hj => (w1o.lt j hj).1, fun j hj => (w2o.lt j hj).1, fun j hj => (w3o.lt j hj).1⟩, bxs⟩
        | false =>
          clear hq5
          obtain ⟨m', rfl⟩ : ∃ m', m = m' + 3 := ⟨m - 3, by simp at hm; omega⟩
          clear hm
          refine wpAnyH_take (i := 11) (oi := ?oc11) (v := ?vc11) ?hic11 (by kernel_rfl) (by kernel_rfl) (by kernel_rfl) ?hQc11 ?hyc11 hS ?restc11
          case hic11 => simp only [List.getElem?_toArray, List.getElem?_cons_zero, List.getElem?_cons_succ]; rfl
          case hQc11 => exact fun _ _ _ h => h
          case hyc11 => refine Or.inl ⟨by rfl, ?_⟩; intro W hSw; (try dsimp only at hSw); go_simp; try with_reducible rfl
          simp only [Act.put, List.setIfInBounds_toArray, List.set_cons_zero, List.set_cons_succ]
          refine wpAnyH_ready (rs := [12]) (by kernel_rfl) (by simp) ?_
          refine AllReadyH.cons (o := ?oo12z) ?ho12z (fun K' hK => ?_) AllReadyH.nil
          case ho12z => simp only [List.getElem?_toArray, List.getElem?_cons_zero, List.getElem?_cons_succ]; rfl
          go_simp
          have hbW : Below W.heap.size W (W.alloc (.cells #[.int .i64 0, .slice none 0 0, .slice none 0 0, .slice none 0 0] 82)) := (Below.refl _ _).alloc (Nat.le_refl _) _
          refine hK.out _ _ (keep _ _ hS hbW) (fun hS1 => ?_)
          clear hK w1n w2n w3n
          have hgb := heap_alloc_new W (.cells #[.int .i64 0, .slice none 0 0, .slice none 0 0, .slice none 0 0] 82)
          have hgl := hS.2.2.2.2.1
          have w1n : (Value.slice d1 V.chain.length n1).ownBlock ≠ some W.heap.size := fun hg => by have := (w1o.lt _ hg).2; omega
          have w2n : (Value.slice d2 V.since.length n2).ownBlock ≠ some W.heap.size := fun hg => by have := (w2o.lt _ hg).2; omega
          have w3n : (Value.slice d3 V.boot.length n3).ownBlock ≠ some W.heap.size := fun hg => by have := (w3o.lt _ hg).2; omega
          replace w1o := own_below hbW w1o
          replace w2o := own_below hbW w2o
          replace w3o := own_below hbW w3o
          clear hbW hS
          generalize W.heap.size = g at hgb hgl w1n w2n w3n ⊢
          generalize W.alloc (.cells #[.int .i64 0, .slice none 0 0, .slice none 0 0, .slice none 0 0] 82) = W1 at hgb w1o w2o w3o hS1 ⊢
          have hS := hS1
          clear hS1
          obtain ⟨u0, u1, u2, u3⟩ := block_cells hgb
          obtain ⟨fz0, fz1, fz2, fz3⟩ := block_frozen hgb
          refine wpAnyH_ready (rs := [13]) (by kernel_rfl) (by simp) ?_
          refine AllReadyH.cons (o := ?oof) ?hof (fun K' hK => ?_) AllReadyH.nil
          case hof => simp only [List.getElem?_toArray, List.getElem?_cons_zero, List.getElem?_cons_succ]; rfl
          go_simp
          have bxs := below_set4 (low2 _ hS) g hgl (.int .i64 V.epoch) (.slice d1 V.chain.length n1) (.slice d2 V.since.length n2) (.slice d3 V.boot.length n3)
          refine hK.out _ _ (mkS _ bxs) (fun hS2 => ?_)
          clear hK
          refine wpAnyH_done (by kernel_rfl) ?_ _
          have hbs := block_set (block_set (block_set (block_set hgb 0 (.int .i64 V.epoch)) 1 (.slice d1 V.chain.length n1)) 2 (.slice d2 V.since.length n2)) 3 (.slice d3 V.boot.length n3)
          have r1 := own_set4_ne w1o g w1n (.int .i64 V.epoch) (.slice d1 V.chain.length n1) (.slice d2 V.since.length n2) (.slice d3 V.boot.length n3)
          have r2 := own_set4_ne w2o g w2n (.int .i64 V.epoch) (.slice d1 V.chain.length n1) (.slice d2 V.since.length n2) (.slice d3 V.boot.length n3)
          have r3 := own_set4_ne w3o g w3n (.int .i64 V.epoch) (.slice d1 V.chain.length n1) (.slice d2 V.since.length n2) (.slice d3 V.boot.length n3)
          have i1 := own_ints r1 (fun n hn => H1.out.at_.2.2.2.2.1 n hn)
          have i2 := own_ints r2 (fun n hn => H2.out.at_.2.2.2.2.1 n hn)
          have i3 := own_ints r3 (fun n hn => H3.out.at_.2.2.2.2.1 n hn)
          clear hgb u0 u1 u2 u3 fz0 fz1 fz2 fz3
          go_wp2
          all_goals go_meet
          all_goals
            case rel => exact ⟨g, d1, n1, d2, n2, d3, n3, rfl, hgl, hbs, ⟨he, _, _, _, rfl, i1, i2, i3⟩, ⟨_, _, _, _, rfl, fun j hj => (w1o.lt j hj).1, fun j hj => (w2o.lt j hj).1, fun j hj => (w3o.lt j hj).1⟩, bxs⟩
      · left
        refine ⟨?_, fun i hi => ?_⟩
        · rcases (by omega : p = 0 ∨ p = 1 ∨ p = 2) with rfl | rfl | rfl
          all_goals (cases q <;> decide +kernel)
        · obtain ⟨h0, o, ho, hall⟩ := mem_ready.1 hi
          have hlt : i < 14 := by
            rcases Nat.lt_or_ge i 14 with h | h
            · exact h
            · rw [Array.getElem?_eq_none (by simpa using h)] at ho; cases ho
          rcases (by omega : i = 0 ∨ i = 1 ∨ i = 2 ∨ i = 3 ∨ i = 4 ∨ i = 5 ∨ i = 6 ∨ i = 7 ∨ i = 8 ∨ i = 9 ∨ i = 10 ∨ i = 11 ∨ i = 12 ∨ i = 13) with rfl | rfl | rfl | rfl | rfl | rfl | rfl | rfl | rfl | rfl | rfl | rfl | rfl | rfl
          · cases h0
          · cases h0
          · cases h0
          · cases h0
          · have hp0 : p = 0 := by
              have h1 : decide (1 ≤ p) = false := h0
              simp only [decide_eq_false_iff_not] at h1
              omega
            subst hp0
            refine wpOp_step (o := ?oo4) ?ho4 (fun K' hK => ?_)
            case ho4 => simp only [List.getElem?_toArray, List.getElem?_cons_zero, List.getElem?_cons_succ]; rfl
            have HK := Lib.hid hK
            clear hK
            go_simp
            refine (C3.out W (low _ hS)).mono ?_
            rintro e W' ⟨v', rfl, ow, hbW⟩
            have hzW : w.heap.size + 2 ≤ W.heap.size := hS.2.2.2.2.1
            have hS' := keep _ _ hS hbW
            exact HK.out _ _ ⟨hS', 1, q, g, x4, v', x12, x15, rfl, rfl, hS', (fun hq => ⟨(hq5 hq).1, (hq5 hq).2.1, (hbW.block g (Array.getElem?_eq_some_iff.1 (hq5 hq).2.2).1).trans (hq5 hq).2.2⟩), (fun _ => ⟨own_form ow, own_base (by omega) ow, fun hq hg => by have h1 := (ow.lt g hg).1; have h2 := (Array.getElem?_eq_some_iff.1 (hq5 hq).2.2).1; omega⟩), (fun h => absurd h (by omega)), (fun h => absurd h (by omega)), by omega⟩
          · cases h0
          · cases h0
          · simp only [List.getElem?_toArray, List.getElem?_cons_succ, List.getElem?_cons_zero, Option.some.injEq] at ho
            subst ho
            have hp0 : p = 1 := by
              have h1 : decide (2 ≤ p) = false := h0
              have h2 : decide (1 ≤ p) = true := hall ⟨4, .chain⟩ (by simp) rfl
              simp only [decide_eq_false_iff_not, decide_eq_true_eq] at h1 h2
              omega
            subst hp0
            refine wpOp_step (o := ?oo7) ?ho7 (fun K' hK => ?_)
            case ho7 => simp only [List.getElem?_toArray, List.getElem?_cons_zero, List.getElem?_cons_succ]; rfl
            have HK := Lib.hid hK
            clear hK
            go_simp
            refine (C4.out W (low _ hS)).mono ?_
            rintro e W' ⟨v', rfl, ow, hbW⟩
            have hzW : w.heap.size + 2 ≤ W.heap.size := hS.2.2.2.2.1
            have hS' := keep _ _ hS hbW
            exact HK.out _ _ ⟨hS', 2, q, g, x4, x9, v', x15, rfl, rfl, hS', (fun hq => ⟨(hq5 hq).1, (hq5 hq).2.1, (hbW.block g (Array.getElem?_eq_some_iff.1 (hq5 hq).2.2).1).trans (hq5 hq).2.2⟩), (fun _ => ⟨(f1 (by omega)).1, own_below hbW (f1 (by omega)).2.1, (f1 (by omega)).2.2⟩), (fun _ => ⟨own_form ow, own_base (by omega) ow, fun hq hg => by have h1 := (ow.lt g hg).1; have h2 := (Array.getElem?_eq_some_iff.1 (hq5 hq).2.2).1; omega⟩), (fun h => absurd h (by omega)), by omega⟩
          · cases h0
          · cases h0
          · simp only [List.getElem?_toArray, List.getElem?_cons_succ, List.getElem?_cons_zero, Option.some.injEq] at ho
            subst ho
            have hp0 : p = 2 := by
              have h1 : decide (3 ≤ p) = false := h0
              have h2 : decide (2 ≤ p) = true := hall ⟨7, .chain⟩ (by simp) rfl
              simp only [decide_eq_false_iff_not, decide_eq_true_eq] at h1 h2
              omega
            subst hp0
            refine wpOp_step (o := ?oo10) ?ho10 (fun K' hK => ?_)
            case ho10 => simp only [List.getElem?_toArray, List.getElem?_cons_zero, List.getElem?_cons_succ]; rfl
            have HK := Lib.hid hK
            clear hK
            go_simp
            refine (C5.out W (low _ hS)).mono ?_
            rintro e W' ⟨v', rfl, ow, hbW⟩
            have hzW : w.heap.size + 2 ≤ W.heap.size := hS.2.2.2.2.1
            have hS' := keep _ _ hS hbW
            exact HK.out _ _ ⟨hS', 3, q, g, x4, x9, x12, v', rfl, rfl, hS', (fun hq => ⟨(hq5 hq).1, (hq5 hq).2.1, (hbW.block g (Array.getElem?_eq_some_iff.1 (hq5 hq).2.2).1).trans (hq5 hq).2.2⟩), (fun _ => ⟨(f1 (by omega)).1, own_below hbW (f1 (by omega)).2.1, (f1 (by omega)).2.2⟩), (fun _ => ⟨(f2 (by omega)).1, own_below hbW (f2 (by omega)).2.1, (f2 (by omega)).2.2⟩), (fun _ => ⟨own_form ow, own_base (by omega) ow, fun hq hg => by have h1 := (ow.lt g hg).1; have h2 := (Array.getElem?_eq_some_iff.1 (hq5 hq).2.2).1; omega⟩), by omega⟩
          · simp only [List.getElem?_toArray, List.getElem?_cons_succ, List.getElem?_cons_zero, Option.some.injEq] at ho
            subst ho
            have h2 : decide (3 ≤ p) = true := hall ⟨10, .data⟩ (by simp) rfl
            rw [decide_eq_true_eq] at h2
            omega
          · have hq : q = false := h0
            subst hq
            refine wpOp_step (o := ?oo12) ?ho12 (fun K' hK => ?_)
            case ho12 => simp only [List.getElem?_toArray, List.getElem?_cons_zero, List.getElem?_cons_succ]; rfl
            have HK := Lib.hid hK
            clear hK
            go_simp
            have hbW : Below W.heap.size W (W.alloc (.cells #[.int .i64 0, .slice none 0 0, .slice none 0 0, .slice none 0 0] 82)) := (Below.refl _ _).alloc (Nat.le_refl _) _
            have hS' := keep _ _ hS hbW
            exact HK.out _ _ ⟨hS', p, true, W.heap.size, (.pointer (some ⟨W.heap.size, 0, none⟩)), x9, x12, x15, rfl, rfl, hS', (fun _ => ⟨rfl, hS.2.2.2.2.1, heap_alloc_new _ _⟩), (fun hp => ⟨(f1 hp).1, own_below hbW (f1 hp).2.1, fun _ hg => by have := ((f1 hp).2.1.lt _ hg).2; omega⟩), (fun hp => ⟨(f2 hp).1, own_below hbW (f2 hp).2.1, fun _ hg => by have := ((f2 hp).2.1.lt _ hg).2; omega⟩), (fun hp => ⟨(f3 hp).1, own_below hbW (f3 hp).2.1, fun _ hg => by have := ((f3 hp).2.1.lt _ hg).2; omega⟩), by omega⟩
          · simp only [List.getElem?_toArray, List.getElem?_cons_succ, List.getElem?_cons_zero, Option.some.injEq] at ho
            subst ho
            have h2 : false = true := hall ⟨11, .data⟩ (by simp) rfl
            cases h2
    · exact ⟨0, false, 0, undef, undef, undef, undef, rfl, rfl, hHeld, (fun h => by cases h), (fun h => absurd h (by omega)), (fun h => absurd h (by omega)), (fun h => absurd h (by omega)), by omega⟩
  case rest =>
    obtain ⟨g, d1, n1, d2, n2, d3, n3, rfl, hgl, hgb, hvx, hfx, bxe⟩ := hcut
    obtain ⟨u0, u1, u2, u3⟩ := block_cells hgb
    have HVX := Lib.hid hvx
    clear hvx
    go_wp2_with fail
    refine (right_any _ _ V _ HVX.out (Nat.le_refl _) hsm' false hb.symm).mono ?_
    rintro e w9 ⟨rfl, hb9⟩
    have hgl2 := (Array.getElem?_eq_some_iff.1 hgb).1
    have hgb9 := (hb9.block g hgl2).trans hgb
    obtain ⟨u0, u1, u2, u3⟩ := block_cells hgb9
    have bx9 := below_more bxe (size_two bxe) hb9
    have hr9 := res_block bx9
    obtain ⟨z0, z1, z2, z3⟩ := block_cells hr9
    obtain ⟨fz0, fz1, fz2, fz3⟩ := block_frozen hr9
    clear hgb hgb9
    go_wp2_with fail
    (try simp only [Exit.inBlock, Exit.then])
    have hr9' := res_block bx9
    refine bodyPost_ret (ret_cell4 rfl _ _ _ _ _ _ _ _ _ _ _ _ _ (by rfl) hr9' Tryd.underlying82 rfl vinfo) rfl ?_
    refine ⟨_, rfl, view_nil _ _, below_set4 (below_two' bx9) _ (by omega) _ _ _ _, freshV_nil _⟩
end Go.Proofs.YtapgjjfndbfnpaaDoor.Vw
