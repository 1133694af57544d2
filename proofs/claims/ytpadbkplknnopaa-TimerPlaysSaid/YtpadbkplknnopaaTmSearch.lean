/-
  The walk of slices.BinarySearchFunc at timers.
-/
import Derived.Test.YtpadbkplknnopaaTmWalk
import Derived.Test.YtpadbkplknnopaaRegInv
import Derived.Deep.RegionHeld3
import Derived.Deep.DeepFit
import Derived.IntWalk
namespace Go.Proofs.Ytpadbkplknnopaa
open Go.RowKit

set_option maxRecDepth 100000 in
set_option maxHeartbeats 3200000 in
theorem search_any (B : Nat) (v : Value) (l : List TM) (x : TM) (i : Nat) (hi : i ≤ l.length) (hlo : ∀ j (h : j < l.length), j < i → orderT l[j] x < 0) (hhi : ∀ j (h : j < l.length), i ≤ j → 0 ≤ orderT l[j] x) (hl64 : l.length ≤ 1000) (w : World) (h : IsTimers B w v l) (hB : B ≤ w.heap.size) :
    Calls Try.prog 25 #[v, .agg #[.string x.name, .int .i64 x.at_], .func (.func 26) #[] #[]] w fun r w' => ∃ q : Bool, r = .returned (.tuple #[.int .i64 i, .bool q]) ∧ Below w.heap.size w w' := by
  have HL := Lib.hid h
  have HLO := Lib.hid hlo
  have HHI := Lib.hid hhi
  obtain ⟨a, cap, rfl⟩ := h.form
  have bx0 := bx_new (w := w) (.cells #[.string x.name, .int .i64 x.at_] 61)
  have HBB := Lib.hid hB
  clear h hlo hhi hB
  go_enter Try.func25, Try.ntmps25
  go_wp2_with fail
  go_loopw [9, 10, 11] (fun t9 t10 _ wr => ∃ lo hi : Nat, lo ≤ i ∧ i ≤ hi ∧ hi ≤ l.length ∧ t9 = .int .i64 lo ∧ t10 = .int .i64 hi ∧ Below (w.heap.size + 1) (w.alloc (.cells #[.string x.name, .int .i64 x.at_] 61)) wr) (fun t9 t10 _ _ => (intOf t10).toNat - (intOf t9).toNat)
  case atStart => exact ⟨0, l.length, by omega, hi, Nat.le_refl _, rfl, rfl, bx0⟩
  case round =>
    obtain ⟨lo, hi', h1, h2, h3, rfl, rfl, bx⟩ := hrel
    obtain ⟨y0, y1⟩ := box2 bx
    by_cases hlt : lo < hi'
    · have j1 : (lo : Int) < (hi' : Int) := by omega
      obtain ⟨m, hm⟩ : ∃ m, (lo + hi') / 2 = m := ⟨_, rfl⟩
      have e1 : ((lo : Int) + (hi' : Int)) / 2 = (m : Int) := by omega
      have m1 : lo ≤ m := by omega
      have m2 : m < hi' := by omega
      have i1 : (0 : Int) ≤ (m : Int) := by omega
      have i2 : (m : Int) < (l.length : Int) := by omega
      clear hm
      obtain ⟨b, off, cap', he, hblk, _, hc1, hc2⟩ := (HL.out.keep (bx_below bx) HBB.out).get m (by omega)
      obtain ⟨rfl, -, rfl⟩ : a = some ⟨b, off, none⟩ ∧ l.length = l.length ∧ cap = cap' := by injection he with e1 e2 e3; exact ⟨e1, e2, e3⟩
      clear he
      obtain ⟨y, hy⟩ : ∃ y, l[m]'(by omega) = y := ⟨_, rfl⟩
      rw [hy] at hc1 hc2
      obtain ⟨c, hc⟩ : ∃ c, orderT y x = c := ⟨_, rfl⟩
      have C := Lib.hid (order_any y x c hc)
      have mk : ∀ X, Below (w.heap.size + 1) (w.alloc (.cells #[.string x.name, .int .i64 x.at_] 61)) X → Below wr.heap.size wr X → X.cell? ⟨b, off + m * 2, none⟩ = some (.string y.name) ∧ X.cell? ⟨b, off + m * 2 + 1, none⟩ = some (.int .i64 y.at_) ∧ X.cell? ⟨w.heap.size, 0, none⟩ = some (.string x.name) ∧ X.cell? ⟨w.heap.size, 1, none⟩ = some (.int .i64 x.at_) ∧ Below (w.heap.size + 1) (w.alloc (.cells #[.string x.name, .int .i64 x.at_] 61)) X := fun X hX hX2 =>
        ⟨(hX2.cell (p := ⟨b, off + m * 2, none⟩) (World.block_lt_of_cell? _ _ hc1)).trans hc1, (hX2.cell (p := ⟨b, off + m * 2 + 1, none⟩) (World.block_lt_of_cell? _ _ hc2)).trans hc2, (box2 hX).1, (box2 hX).2, hX⟩
      have hh := mk wr.drew bx.drew (Below.refl _ _).drew
      have KEEP := Lib.hid (fun (X X' : World) (h : X.cell? ⟨b, off + m * 2, none⟩ = some (.string y.name) ∧ X.cell? ⟨b, off + m * 2 + 1, none⟩ = some (.int .i64 y.at_) ∧ X.cell? ⟨w.heap.size, 0, none⟩ = some (.string x.name) ∧ X.cell? ⟨w.heap.size, 1, none⟩ = some (.int .i64 x.at_) ∧ Below (w.heap.size + 1) (w.alloc (.cells #[.string x.name, .int .i64 x.at_] 61)) X) (hX' : Below X.heap.size X X') => (⟨(hX'.cell (p := ⟨b, off + m * 2, none⟩) (World.block_lt_of_cell? _ _ h.1)).trans h.1, (hX'.cell (p := ⟨b, off + m * 2 + 1, none⟩) (World.block_lt_of_cell? _ _ h.2.1)).trans h.2.1, (box2 (bx_more h.2.2.2.2 hX')).1, (box2 (bx_more h.2.2.2.2 hX')).2, bx_more h.2.2.2.2 hX'⟩ : X'.cell? ⟨b, off + m * 2, none⟩ = some (.string y.name) ∧ X'.cell? ⟨b, off + m * 2 + 1, none⟩ = some (.int .i64 y.at_) ∧ X'.cell? ⟨w.heap.size, 0, none⟩ = some (.string x.name) ∧ X'.cell? ⟨w.heap.size, 1, none⟩ = some (.int .i64 x.at_) ∧ Below (w.heap.size + 1) (w.alloc (.cells #[.string x.name, .int .i64 x.at_] 61)) X'))
      have HY := Lib.hid hy
      have HC := Lib.hid hc
      clear mk hy hc
      by_cases hcz : c < 0
      · have g1 : c < (0 : Int) := hcz
        have him : m < i := by
          rcases Nat.lt_or_ge m i with h5 | h5
          · exact h5
          · have h6 := HHI.out m (by omega) h5
            rw [HY.out, HC.out] at h6
            omega
        go_wp2_with fail
        go_region_held3 (fun X => X.cell? ⟨b, off + m * 2, none⟩ = some (.string y.name) ∧ X.cell? ⟨b, off + m * 2 + 1, none⟩ = some (.int .i64 y.at_) ∧ X.cell? ⟨w.heap.size, 0, none⟩ = some (.string x.name) ∧ X.cell? ⟨w.heap.size, 1, none⟩ = some (.int .i64 x.at_) ∧ Below (w.heap.size + 1) (w.alloc (.cells #[.string x.name, .int .i64 x.at_] 61)) X) (first | exact hh | exact KEEP.out _ _ (by assumption) (by assumption))
          (first
            | ((with_reducible refine (C.out _).mono ?_); rintro r w2 ⟨rfl, hb2⟩))
        have bx2 := (KEEP.out _ _ hh hb2).2.2.2.2
        go_wp2_with fail
        go_roundw
        case rel => exact ⟨m + 1, hi', by omega, h2, h3, by go_num, rfl, bx2⟩
        case measure => simp [intOf]; omega
      · have g1 : ¬ c < (0 : Int) := hcz
        have him : i ≤ m := by
          rcases Nat.lt_or_ge m i with h5 | h5
          · have h6 := HLO.out m (by omega) h5
            rw [HY.out, HC.out] at h6
            omega
          · exact h5
        go_wp2_with fail
        go_region_held3 (fun X => X.cell? ⟨b, off + m * 2, none⟩ = some (.string y.name) ∧ X.cell? ⟨b, off + m * 2 + 1, none⟩ = some (.int .i64 y.at_) ∧ X.cell? ⟨w.heap.size, 0, none⟩ = some (.string x.name) ∧ X.cell? ⟨w.heap.size, 1, none⟩ = some (.int .i64 x.at_) ∧ Below (w.heap.size + 1) (w.alloc (.cells #[.string x.name, .int .i64 x.at_] 61)) X) (first | exact hh | exact KEEP.out _ _ (by assumption) (by assumption))
          (first
            | ((with_reducible refine (C.out _).mono ?_); rintro r w2 ⟨rfl, hb2⟩))
        have bx2 := (KEEP.out _ _ hh hb2).2.2.2.2
        go_wp2_with fail
        go_roundw
        case rel => exact ⟨lo, m, h1, him, by omega, rfl, rfl, bx2⟩
        case measure => simp [intOf]; omega
    · have j1 : ¬ (lo : Int) < (hi' : Int) := by omega
      obtain rfl : lo = i := by omega
      obtain rfl : hi' = lo := by omega
      by_cases hn : hi' < l.length
      · have j2 : (hi' : Int) < (l.length : Int) := by omega
        have i1 : (0 : Int) ≤ (hi' : Int) := by omega
        obtain ⟨b, off, cap', he, hblk, _, hc1, hc2⟩ := (HL.out.keep (bx_below bx) HBB.out).get hi' (by omega)
        obtain ⟨rfl, -, rfl⟩ : a = some ⟨b, off, none⟩ ∧ l.length = l.length ∧ cap = cap' := by injection he with e1 e2 e3; exact ⟨e1, e2, e3⟩
        clear he
        obtain ⟨y, hy⟩ : ∃ y, l[hi']'(by omega) = y := ⟨_, rfl⟩
        rw [hy] at hc1 hc2
        obtain ⟨c, hc⟩ : ∃ c, orderT y x = c := ⟨_, rfl⟩
        have C := Lib.hid (order_any y x c hc)
        have mk : ∀ X, Below (w.heap.size + 1) (w.alloc (.cells #[.string x.name, .int .i64 x.at_] 61)) X → Below wr.heap.size wr X → X.cell? ⟨b, off + hi' * 2, none⟩ = some (.string y.name) ∧ X.cell? ⟨b, off + hi' * 2 + 1, none⟩ = some (.int .i64 y.at_) ∧ X.cell? ⟨w.heap.size, 0, none⟩ = some (.string x.name) ∧ X.cell? ⟨w.heap.size, 1, none⟩ = some (.int .i64 x.at_) ∧ Below (w.heap.size + 1) (w.alloc (.cells #[.string x.name, .int .i64 x.at_] 61)) X := fun X hX hX2 =>
          ⟨(hX2.cell (p := ⟨b, off + hi' * 2, none⟩) (World.block_lt_of_cell? _ _ hc1)).trans hc1, (hX2.cell (p := ⟨b, off + hi' * 2 + 1, none⟩) (World.block_lt_of_cell? _ _ hc2)).trans hc2, (box2 hX).1, (box2 hX).2, hX⟩
        have hh := mk wr.drew bx.drew (Below.refl _ _).drew
        have KEEP := Lib.hid (fun (X X' : World) (h : X.cell? ⟨b, off + hi' * 2, none⟩ = some (.string y.name) ∧ X.cell? ⟨b, off + hi' * 2 + 1, none⟩ = some (.int .i64 y.at_) ∧ X.cell? ⟨w.heap.size, 0, none⟩ = some (.string x.name) ∧ X.cell? ⟨w.heap.size, 1, none⟩ = some (.int .i64 x.at_) ∧ Below (w.heap.size + 1) (w.alloc (.cells #[.string x.name, .int .i64 x.at_] 61)) X) (hX' : Below X.heap.size X X') => (⟨(hX'.cell (p := ⟨b, off + hi' * 2, none⟩) (World.block_lt_of_cell? _ _ h.1)).trans h.1, (hX'.cell (p := ⟨b, off + hi' * 2 + 1, none⟩) (World.block_lt_of_cell? _ _ h.2.1)).trans h.2.1, (box2 (bx_more h.2.2.2.2 hX')).1, (box2 (bx_more h.2.2.2.2 hX')).2, bx_more h.2.2.2.2 hX'⟩ : X'.cell? ⟨b, off + hi' * 2, none⟩ = some (.string y.name) ∧ X'.cell? ⟨b, off + hi' * 2 + 1, none⟩ = some (.int .i64 y.at_) ∧ X'.cell? ⟨w.heap.size, 0, none⟩ = some (.string x.name) ∧ X'.cell? ⟨w.heap.size, 1, none⟩ = some (.int .i64 x.at_) ∧ Below (w.heap.size + 1) (w.alloc (.cells #[.string x.name, .int .i64 x.at_] 61)) X'))
        have HY := Lib.hid hy
        have HC := Lib.hid hc
        clear mk hy hc
        go_wp2_with fail
        go_region_held3 (fun X => X.cell? ⟨b, off + hi' * 2, none⟩ = some (.string y.name) ∧ X.cell? ⟨b, off + hi' * 2 + 1, none⟩ = some (.int .i64 y.at_) ∧ X.cell? ⟨w.heap.size, 0, none⟩ = some (.string x.name) ∧ X.cell? ⟨w.heap.size, 1, none⟩ = some (.int .i64 x.at_) ∧ Below (w.heap.size + 1) (w.alloc (.cells #[.string x.name, .int .i64 x.at_] 61)) X) (first | exact hh | exact KEEP.out _ _ (by assumption) (by assumption))
          (first
            | ((with_reducible refine (C.out _).mono ?_); rintro r w2 ⟨rfl, hb2⟩))
        have bx2 := (KEEP.out _ _ hh hb2).2.2.2.2
        go_wp2_with fail
        go_ret2
        exact ⟨_, rfl, bx_below bx2⟩
      · have j2 : ¬ (hi' : Int) < (l.length : Int) := by omega
        have hh : wr.drew.cell? ⟨w.heap.size, 0, none⟩ = some (.string x.name) := y0
        go_wp2_with fail
        refine region_begin (S := fun X => X.cell? ⟨w.heap.size, 0, none⟩ = some (.string x.name)) 16 rfl (by kernel_rfl) hh (fun hH0 => ?_)
        refine wpAnyH_take (i := 0) (oi := ?oz0) (v := ?vz0) ?hiz0 (by kernel_rfl) (by kernel_rfl) (by kernel_rfl) ?hQz0 ?hyz0 hH0 ?_
        case hiz0 => simp only [List.getElem?_toArray, List.getElem?_cons_zero]; rfl
        case hQz0 => exact fun _ _ _ h => h
        case hyz0 => refine Or.inl ⟨by rfl, ?_⟩; intro W hSw; (try dsimp only at hSw); go_simp; try with_reducible rfl
        simp only [Act.put, List.setIfInBounds_toArray, List.set_cons_zero, List.set_cons_succ]
        refine wpAnyH_take (i := 1) (oi := ?oz1) (v := ?vz1) ?hiz1 (by kernel_rfl) (by kernel_rfl) (by kernel_rfl) ?hQz1 ?hyz1 hH0 ?_
        case hiz1 => simp only [List.getElem?_toArray, List.getElem?_cons_zero, List.getElem?_cons_succ]; rfl
        case hQz1 => exact fun _ _ _ h => h
        case hyz1 => refine Or.inl ⟨by rfl, ?_⟩; intro W hSw; (try dsimp only at hSw); go_simp; try with_reducible rfl
        simp only [Act.put, List.setIfInBounds_toArray, List.set_cons_zero, List.set_cons_succ]
        refine wpAnyH_take (i := 2) (oi := ?oz2) (v := ?vz2) ?hiz2 (by kernel_rfl) (by kernel_rfl) (by kernel_rfl) ?hQz2 ?hyz2 hH0 ?_
        case hiz2 => simp only [List.getElem?_toArray, List.getElem?_cons_zero, List.getElem?_cons_succ]; rfl
        case hQz2 => exact fun _ _ _ h => h
        case hyz2 => refine Or.inl ⟨by rfl, ?_⟩; intro W hSw; (try dsimp only at hSw); go_simp; try with_reducible rfl
        simp only [Act.put, List.setIfInBounds_toArray, List.set_cons_zero, List.set_cons_succ]
        refine wpAnyH_take (i := 3) (oi := ?oz3) (v := ?vz3) ?hiz3 (by kernel_rfl) (by kernel_rfl) (by kernel_rfl) ?hQz3 ?hyz3 hH0 ?_
        case hiz3 => simp only [List.getElem?_toArray, List.getElem?_cons_zero, List.getElem?_cons_succ]; rfl
        case hQz3 => exact fun _ _ _ h => h
        case hyz3 => refine Or.inl ⟨by rfl, ?_⟩; intro W hSw; (try dsimp only at hSw); go_simp; try with_reducible rfl
        simp only [Act.put, List.setIfInBounds_toArray, List.set_cons_zero, List.set_cons_succ]
        refine wpAnyH_take (i := 4) (oi := ?oz4) (v := ?vz4) ?hiz4 (by kernel_rfl) (by kernel_rfl) (by kernel_rfl) ?hQz4 ?hyz4 hH0 ?_
        case hiz4 => simp only [List.getElem?_toArray, List.getElem?_cons_zero, List.getElem?_cons_succ]; rfl
        case hQz4 => exact fun _ _ _ h => h
        case hyz4 => refine Or.inl ⟨by rfl, ?_⟩; intro W hSw; (try dsimp only at hSw); go_simp; try with_reducible rfl
        simp only [Act.put, List.setIfInBounds_toArray, List.set_cons_zero, List.set_cons_succ]
        refine wpAnyH_take (i := 5) (oi := ?oz5) (v := undef) ?hiz5 (by kernel_rfl) (by kernel_rfl) (by kernel_rfl) ?hQz5 ?hyz5 hH0 ?_
        case hiz5 => simp only [List.getElem?_toArray, List.getElem?_cons_zero, List.getElem?_cons_succ]; rfl
        case hQz5 => exact fun _ _ _ h => h
        case hyz5 => exact Or.inr ⟨by rfl, rfl⟩
        simp only [Act.put, List.setIfInBounds_toArray, List.set_cons_zero, List.set_cons_succ]
        refine wpAnyH_take (i := 6) (oi := ?oz6) (v := undef) ?hiz6 (by kernel_rfl) (by kernel_rfl) (by kernel_rfl) ?hQz6 ?hyz6 hH0 ?_
        case hiz6 => simp only [List.getElem?_toArray, List.getElem?_cons_zero, List.getElem?_cons_succ]; rfl
        case hQz6 => exact fun _ _ _ h => h
        case hyz6 => exact Or.inr ⟨by rfl, rfl⟩
        simp only [Act.put, List.setIfInBounds_toArray, List.set_cons_zero, List.set_cons_succ]
        refine wpAnyH_take (i := 7) (oi := ?oz7) (v := undef) ?hiz7 (by kernel_rfl) (by kernel_rfl) (by kernel_rfl) ?hQz7 ?hyz7 hH0 ?_
        case hiz7 => simp only [List.getElem?_toArray, List.getElem?_cons_zero, List.getElem?_cons_succ]; rfl
        case hQz7 => exact fun _ _ _ h => h
        case hyz7 => exact Or.inr ⟨by rfl, rfl⟩
        simp only [Act.put, List.setIfInBounds_toArray, List.set_cons_zero, List.set_cons_succ]
        refine wpAnyH_take (i := 8) (oi := ?oz8) (v := undef) ?hiz8 (by kernel_rfl) (by kernel_rfl) (by kernel_rfl) ?hQz8 ?hyz8 hH0 ?_
        case hiz8 => simp only [List.getElem?_toArray, List.getElem?_cons_zero, List.getElem?_cons_succ]; rfl
        case hQz8 => exact fun _ _ _ h => h
        case hyz8 => exact Or.inr ⟨by rfl, rfl⟩
        simp only [Act.put, List.setIfInBounds_toArray, List.set_cons_zero, List.set_cons_succ]
        refine wpAnyH_take (i := 9) (oi := ?oz9) (v := undef) ?hiz9 (by kernel_rfl) (by kernel_rfl) (by kernel_rfl) ?hQz9 ?hyz9 hH0 ?_
        case hiz9 => simp only [List.getElem?_toArray, List.getElem?_cons_zero, List.getElem?_cons_succ]; rfl
        case hQz9 => exact fun _ _ _ h => h
        case hyz9 => exact Or.inr ⟨by rfl, rfl⟩
        simp only [Act.put, List.setIfInBounds_toArray, List.set_cons_zero, List.set_cons_succ]
        refine wpAnyH_take (i := 10) (oi := ?oz10) (v := undef) ?hiz10 (by kernel_rfl) (by kernel_rfl) (by kernel_rfl) ?hQz10 ?hyz10 hH0 ?_
        case hiz10 => simp only [List.getElem?_toArray, List.getElem?_cons_zero, List.getElem?_cons_succ]; rfl
        case hQz10 => exact fun _ _ _ h => h
        case hyz10 => exact Or.inr ⟨by rfl, rfl⟩
        simp only [Act.put, List.setIfInBounds_toArray, List.set_cons_zero, List.set_cons_succ]
        refine wpAnyH_take (i := 11) (oi := ?oz11) (v := undef) ?hiz11 (by kernel_rfl) (by kernel_rfl) (by kernel_rfl) ?hQz11 ?hyz11 hH0 ?_
        case hiz11 => simp only [List.getElem?_toArray, List.getElem?_cons_zero, List.getElem?_cons_succ]; rfl
        case hQz11 => exact fun _ _ _ h => h
        case hyz11 => exact Or.inr ⟨by rfl, rfl⟩
        simp only [Act.put, List.setIfInBounds_toArray, List.set_cons_zero, List.set_cons_succ]
        refine wpAnyH_take (i := 12) (oi := ?oz12) (v := undef) ?hiz12 (by kernel_rfl) (by kernel_rfl) (by kernel_rfl) ?hQz12 ?hyz12 hH0 ?_
        case hiz12 => simp only [List.getElem?_toArray, List.getElem?_cons_zero, List.getElem?_cons_succ]; rfl
        case hQz12 => exact fun _ _ _ h => h
        case hyz12 => exact Or.inr ⟨by rfl, rfl⟩
        simp only [Act.put, List.setIfInBounds_toArray, List.set_cons_zero, List.set_cons_succ]
        refine wpAnyH_take (i := 13) (oi := ?oz13) (v := ?vz13) ?hiz13 (by kernel_rfl) (by kernel_rfl) (by kernel_rfl) ?hQz13 ?hyz13 hH0 ?_
        case hiz13 => simp only [List.getElem?_toArray, List.getElem?_cons_zero, List.getElem?_cons_succ]; rfl
        case hQz13 => exact fun _ _ _ h => h
        case hyz13 => refine Or.inl ⟨by rfl, ?_⟩; intro W hSw; (try dsimp only at hSw); go_simp; try with_reducible rfl
        simp only [Act.put, List.setIfInBounds_toArray, List.set_cons_zero, List.set_cons_succ]
        refine wpAnyH_take (i := 14) (oi := ?oz14) (v := ?vz14) ?hiz14 (by kernel_rfl) (by kernel_rfl) (by kernel_rfl) ?hQz14 ?hyz14 hH0 ?_
        case hiz14 => simp only [List.getElem?_toArray, List.getElem?_cons_zero, List.getElem?_cons_succ]; rfl
        case hQz14 => exact fun _ _ _ h => h
        case hyz14 => refine Or.inl ⟨by rfl, ?_⟩; intro W hSw; (try dsimp only at hSw); go_simp; try with_reducible rfl
        simp only [Act.put, List.setIfInBounds_toArray, List.set_cons_zero, List.set_cons_succ]
        refine wpAnyH_take (i := 15) (oi := ?oz15) (v := ?vz15) ?hiz15 (by kernel_rfl) (by kernel_rfl) (by kernel_rfl) ?hQz15 ?hyz15 hH0 ?_
        case hiz15 => simp only [List.getElem?_toArray, List.getElem?_cons_zero, List.getElem?_cons_succ]; rfl
        case hQz15 => exact fun _ _ _ h => h
        case hyz15 => refine Or.inl ⟨by rfl, ?_⟩; intro W hSw; (try dsimp only at hSw); go_simp; try with_reducible rfl
        simp only [Act.put, List.setIfInBounds_toArray, List.set_cons_zero, List.set_cons_succ]
        refine wpAnyH_done (by kernel_rfl) ?_ _
        go_wp2_with fail
        go_ret2
        exact ⟨_, rfl, bx_below bx.drew⟩
end Go.Proofs.Ytpadbkplknnopaa
