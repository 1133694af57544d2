/-
  The walk of bucketlinelaw18.ViewWalks. Printed by gen_vwlaw3.py of this claim's writer.
-/
import Derived.Test.YtigojackdkaanaaVwFollows
import Derived.IntWalk
namespace Go.Proofs.Ytigojackdkaanaa
open Go.RowKit

theorem wf64' {a : Int} (h : (Lit.int .i64 a).wf = true) : I64 a := by
  simpa [I64, Lit.wf, IntKind.min, IntKind.max, IntKind.signed, IntKind.bits] using h
theorem fresh_mono {lo lo' : Nat} {v : Value} (h : FreshV lo v) (hl : lo' ≤ lo) : FreshV lo' v := by
  obtain ⟨e, c, s, b, rfl, h1, h2, h3⟩ := h
  exact ⟨e, c, s, b, rfl, fun j hj => Nat.le_trans hl (h1 j hj), fun j hj => Nat.le_trans hl (h2 j hj), fun j hj => Nat.le_trans hl (h3 j hj)⟩
theorem right_one (f : Int) (h1 : 1 ≤ f) (h2 : f ≤ 100) : RightV ⟨1, [f], [1], [0]⟩ :=
  RightL.right ⟨by simp, by simp, by simp, by simp, rfl, rfl, by simp, by simp; omega, by simp, by simp, by simp⟩

set_option maxRecDepth 100000 in
set_option maxHeartbeats 6400000 in
theorem walkViewWalks (f : Int) (wf : (Lit.int .i64 f).wf = true) (v : Value) (W : World) (h : ∃ l, IsInts W.heap.size W v l) :
    Calls Try.prog 5 #[.int .i64 f, v] W fun e W' => e = .returned (.bool true) ∧ Below W.heap.size W W' := by
  obtain ⟨l, hl⟩ := h
  have hf64 := wf64' wf
  have HL := Lib.hid hl
  have C1 := Lib.hid shown_any
  obtain ⟨a, cap, rfl⟩ := hl.form
  clear hl wf
  by_cases hpre : 1 ≤ f ∧ f ≤ 100 ∧ l.length ≤ 100
  · obtain ⟨p1, p2, p3⟩ := hpre
    have g1 : ¬ f < 1 := by omega
    have g2 : ¬ 100 < f := by omega
    have g3 : ¬ (100 : Int) < (l.length : Int) := by omega
    go_enter Try.func5, Try.ntmps5
    go_wp2_with fail
    refine (C1.out _).mono ?_
    rintro e w1 ⟨rfl, hb1⟩
    have hw1 := hb1.size
    go_wp2_with fail
    go_loopw [4, 7] (fun _ t7 wr => ∃ i : Nat, i ≤ l.length ∧ t7 = .int .i64 i ∧ ∃ (V : VW) (a1 a2 a3 : Option Addr) (k1 k2 k3 : Nat), RightV V ∧ SmallV V ∧ V.epoch ≤ i + 1 ∧ W.heap.size ≤ w1.heap.size ∧ w1.heap.size + 4 ≤ wr.heap.size ∧ Below W.heap.size W wr ∧ wr.heap[w1.heap.size + 1 + 1 + 1]? = some (.cells #[.int .i64 V.epoch, .slice a1 V.chain.length k1, .slice a2 V.since.length k2, .slice a3 V.boot.length k3] 24) ∧ IsView wr.heap.size wr (.agg #[.int .i64 V.epoch, .slice a1 V.chain.length k1, .slice a2 V.since.length k2, .slice a3 V.boot.length k3]) V) (fun _ t7 _ => l.length - (intOf t7).toNat)
    case atStart =>
      have q1 := lit3 w1 1 [f] [1] [0] 3 (by constructor <;> decide) (by intro n hn; rw [List.mem_singleton] at hn; subst hn; exact hf64) (by simp [I64]) (by simp [I64]) (by simp [maxLen]) (by simp [maxLen]) (by simp [maxLen])
      have b3 := below_three (w := w1) (.cells (icells [f]).toArray 3) (.cells (icells [1]).toArray 3) (.cells (icells [0]).toArray 3)
      refine ⟨0, Nat.zero_le _, rfl, ⟨1, [f], [1], [0]⟩, _, _, _, _, _, _, right_one f p1 p2, ⟨by simp, by simp, by simp⟩, by simp, hw1, by simp, (bstep hb1 b3).alloc (by simp; omega) _, ?_, (view_alloc q1 (by simp) _).up (by simp)⟩
      have k := heap_alloc_new (((w1.alloc (.cells (icells [f]).toArray 3)).alloc (.cells (icells [1]).toArray 3)).alloc (.cells (icells [0]).toArray 3)) (.cells #[.int .i64 1, .slice (some ⟨w1.heap.size, 0, none⟩) 1 1, .slice (some ⟨w1.heap.size + 1, 0, none⟩) 1 1, .slice (some ⟨w1.heap.size + 1 + 1, 0, none⟩) 1 1] 24)
      rw [World.size_alloc, World.size_alloc, World.size_alloc] at k
      exact k
    case round =>
      obtain ⟨i, hi, rfl, V, a1, a2, a3, k1, k2, k3, hR, hs, hE, _, hwr, hb, hg6, hV⟩ := hrel
      by_cases hlt : i < l.length
      · obtain ⟨nb, no, cap', he, _, _, hnc⟩ := (HL.out.keep hb (Nat.le_refl _)).get i hlt
        obtain ⟨rfl, -, rfl⟩ : a = some ⟨nb, no, none⟩ ∧ l.length = l.length ∧ cap = cap' := by injection he with e1 e2 e3; exact ⟨e1, e2, e3⟩
        clear he
        obtain ⟨n, hn⟩ : ∃ n, l[i] = n := ⟨_, rfl⟩
        have hn64 : I64 n := by rw [← hn]; exact HL.out.at_.2.2.2.2.1 _ (List.getElem_mem hlt)
        rw [hn] at hnc
        clear hn
        have i1 : (0 : Int) ≤ (i : Int) := by omega
        have i2 : (i : Int) < (l.length : Int) := by omega
        obtain ⟨X, code, hX⟩ : ∃ X code, withV V n i = (X, code) := ⟨_, _, rfl⟩
        have hi64 : I64 (i : Int) := by constructor <;> omega
        have R := Lib.hid (fun (w' : World) (hb' : Below wr.heap.size wr w') => with_fresh wr.heap.size _ V n i X code hX w' (hV.keep hb' (Nat.le_refl _)) hb'.size hs hn64 hi64)
        have HVV := Lib.hid hV
        have HX := Lib.hid hX
        have HR := Lib.hid hR
        clear hV hX hR
        have hg6l := (Array.getElem?_eq_some_iff.1 hg6).1
        have mkS_0 : ∀ X' : World, Below wr.heap.size wr X' → X'.cell? ⟨w1.heap.size + 1 + 1 + 1, 0, none⟩ = some (.int .i64 V.epoch) ∧ X'.cell? ⟨w1.heap.size + 1 + 1 + 1, 1, none⟩ = some (.slice a1 V.chain.length k1) ∧ X'.cell? ⟨w1.heap.size + 1 + 1 + 1, 2, none⟩ = some (.slice a2 V.since.length k2) ∧ X'.cell? ⟨w1.heap.size + 1 + 1 + 1, 3, none⟩ = some (.slice a3 V.boot.length k3) ∧ X'.cell? ⟨nb, no + i, none⟩ = some (.int .i64 n) ∧ Below wr.heap.size wr X' := by
          intro X' hk
          obtain ⟨y0, y1, y2, y3⟩ := block_cells hg6
          exact ⟨(hk.cell (p := ⟨w1.heap.size + 1 + 1 + 1, 0, none⟩) hg6l).trans y0, (hk.cell (p := ⟨w1.heap.size + 1 + 1 + 1, 1, none⟩) hg6l).trans y1, (hk.cell (p := ⟨w1.heap.size + 1 + 1 + 1, 2, none⟩) hg6l).trans y2, (hk.cell (p := ⟨w1.heap.size + 1 + 1 + 1, 3, none⟩) hg6l).trans y3,
            (hk.cell (p := ⟨nb, no + i, none⟩) (World.block_lt_of_cell? _ _ hnc)).trans hnc, hk⟩
        have mkS := Lib.hid mkS_0
        clear mkS_0
        have hh := mkS.out wr.drew ((Below.refl _ _).drew)
        have low_0 : ∀ X' : World, (X'.cell? ⟨w1.heap.size + 1 + 1 + 1, 0, none⟩ = some (.int .i64 V.epoch) ∧ X'.cell? ⟨w1.heap.size + 1 + 1 + 1, 1, none⟩ = some (.slice a1 V.chain.length k1) ∧ X'.cell? ⟨w1.heap.size + 1 + 1 + 1, 2, none⟩ = some (.slice a2 V.since.length k2) ∧ X'.cell? ⟨w1.heap.size + 1 + 1 + 1, 3, none⟩ = some (.slice a3 V.boot.length k3) ∧ X'.cell? ⟨nb, no + i, none⟩ = some (.int .i64 n) ∧ Below wr.heap.size wr X') → Below wr.heap.size wr X' := fun X' h => h.2.2.2.2.2
        have low := Lib.hid low_0
        clear low_0
        have keep_0 : ∀ X' X'' : World, (X'.cell? ⟨w1.heap.size + 1 + 1 + 1, 0, none⟩ = some (.int .i64 V.epoch) ∧ X'.cell? ⟨w1.heap.size + 1 + 1 + 1, 1, none⟩ = some (.slice a1 V.chain.length k1) ∧ X'.cell? ⟨w1.heap.size + 1 + 1 + 1, 2, none⟩ = some (.slice a2 V.since.length k2) ∧ X'.cell? ⟨w1.heap.size + 1 + 1 + 1, 3, none⟩ = some (.slice a3 V.boot.length k3) ∧ X'.cell? ⟨nb, no + i, none⟩ = some (.int .i64 n) ∧ Below wr.heap.size wr X') → Below X'.heap.size X' X'' → X''.cell? ⟨w1.heap.size + 1 + 1 + 1, 0, none⟩ = some (.int .i64 V.epoch) ∧ X''.cell? ⟨w1.heap.size + 1 + 1 + 1, 1, none⟩ = some (.slice a1 V.chain.length k1) ∧ X''.cell? ⟨w1.heap.size + 1 + 1 + 1, 2, none⟩ = some (.slice a2 V.since.length k2) ∧ X''.cell? ⟨w1.heap.size + 1 + 1 + 1, 3, none⟩ = some (.slice a3 V.boot.length k3) ∧ X''.cell? ⟨nb, no + i, none⟩ = some (.int .i64 n) ∧ Below wr.heap.size wr X'' := fun X' X'' h k => mkS.out X'' (below_more (low.out _ h) (low.out _ h).size k)
        have keep := Lib.hid keep_0
        clear keep_0
        go_upto_region 8 with fail
        go_cut [8, 9] (fun s8 s9 wx => ∃ g c1 l1 c2 l2 c3 l3, s8 = .pointer (some ⟨g, 0, none⟩) ∧ s9 = .int .i64 code ∧ wr.heap.size ≤ g ∧ wx.heap[g]? = some (.cells #[.int .i64 X.epoch, .slice c1 X.chain.length l1, .slice c2 X.since.length l2, .slice c3 X.boot.length l3] 24) ∧ IsView wx.heap.size wx (.agg #[.int .i64 X.epoch, .slice c1 X.chain.length l1, .slice c2 X.since.length l2, .slice c3 X.boot.length l3]) X ∧ FreshV wr.heap.size (.agg #[.int .i64 X.epoch, .slice c1 X.chain.length l1, .slice c2 X.since.length l2, .slice c3 X.boot.length l3]) ∧ Below wr.heap.size wr wx)
        case first => as_aux_lemma =>
          refine region_begin (S := fun X' => X'.cell? ⟨w1.heap.size + 1 + 1 + 1, 0, none⟩ = some (.int .i64 V.epoch) ∧ X'.cell? ⟨w1.heap.size + 1 + 1 + 1, 1, none⟩ = some (.slice a1 V.chain.length k1) ∧ X'.cell? ⟨w1.heap.size + 1 + 1 + 1, 2, none⟩ = some (.slice a2 V.since.length k2) ∧ X'.cell? ⟨w1.heap.size + 1 + 1 + 1, 3, none⟩ = some (.slice a3 V.boot.length k3) ∧ X'.cell? ⟨nb, no + i, none⟩ = some (.int .i64 n) ∧ Below wr.heap.size wr X') 13 rfl (by kernel_rfl) hh (fun hHeld => ?_)
          refine wpAnyH_take (i := 0) (oi := ?oa0) (v := ?va0) ?hia0 (by kernel_rfl) (by kernel_rfl) (by kernel_rfl) ?hQa0 ?hya0 hHeld ?resta0
          case hia0 => simp only [List.getElem?_toArray, List.getElem?_cons_zero]; rfl
          case hQa0 => exact fun _ _ _ h => h
          case hya0 => refine Or.inl ⟨by rfl, ?_⟩; intro W hSw; (try dsimp only at hSw); go_simp; try with_reducible rfl
          simp only [Act.put, List.setIfInBounds_toArray, List.set_cons_zero, List.set_cons_succ]
          refine wpAnyH_take (i := 1) (oi := ?oa1) (v := ?va1) ?hia1 (by kernel_rfl) (by kernel_rfl) (by kernel_rfl) ?hQa1 ?hya1 hHeld ?resta1
          case hia1 => simp only [List.getElem?_toArray, List.getElem?_cons_zero, List.getElem?_cons_succ]; rfl
          case hQa1 => exact fun _ _ _ h => h
          case hya1 => refine Or.inl ⟨by rfl, ?_⟩; intro W hSw; (try dsimp only at hSw); go_simp; try with_reducible rfl
          simp only [Act.put, List.setIfInBounds_toArray, List.set_cons_zero, List.set_cons_succ]
          refine wpAnyH_take (i := 2) (oi := ?oa2) (v := ?va2) ?hia2 (by kernel_rfl) (by kernel_rfl) (by kernel_rfl) ?hQa2 ?hya2 hHeld ?resta2
          case hia2 => simp only [List.getElem?_toArray, List.getElem?_cons_zero, List.getElem?_cons_succ]; rfl
          case hQa2 => exact fun _ _ _ h => h
          case hya2 => refine Or.inl ⟨by rfl, ?_⟩; intro W hSw; (try dsimp only at hSw); go_simp; try with_reducible rfl
          simp only [Act.put, List.setIfInBounds_toArray, List.set_cons_zero, List.set_cons_succ]
          refine wpAnyH_take (i := 3) (oi := ?oa3) (v := ?va3) ?hia3 (by kernel_rfl) (by kernel_rfl) (by kernel_rfl) ?hQa3 ?hya3 hHeld ?resta3
          case hia3 => simp only [List.getElem?_toArray, List.getElem?_cons_zero, List.getElem?_cons_succ]; rfl
          case hQa3 => exact fun _ _ _ h => h
          case hya3 => refine Or.inl ⟨by rfl, ?_⟩; intro W hSw; (try dsimp only at hSw); go_simp; try with_reducible rfl
          simp only [Act.put, List.setIfInBounds_toArray, List.set_cons_zero, List.set_cons_succ]
          refine wpAnyH_take (i := 4) (oi := ?oa4) (v := ?va4) ?hia4 (by kernel_rfl) (by kernel_rfl) (by kernel_rfl) ?hQa4 ?hya4 hHeld ?resta4
          case hia4 => simp only [List.getElem?_toArray, List.getElem?_cons_zero, List.getElem?_cons_succ]; rfl
          case hQa4 => exact fun _ _ _ h => h
          case hya4 => refine Or.inl ⟨by rfl, ?_⟩; intro W hSw; (try dsimp only at hSw); go_simp; try with_reducible rfl
          simp only [Act.put, List.setIfInBounds_toArray, List.set_cons_zero, List.set_cons_succ]
          refine wpAnyH_take (i := 5) (oi := ?oa5) (v := ?va5) ?hia5 (by kernel_rfl) (by kernel_rfl) (by kernel_rfl) ?hQa5 ?hya5 hHeld ?resta5
          case hia5 => simp only [List.getElem?_toArray, List.getElem?_cons_zero, List.getElem?_cons_succ]; rfl
          case hQa5 => exact fun _ _ _ h => h
          case hya5 => refine Or.inl ⟨by rfl, ?_⟩; intro W hSw; (try dsimp only at hSw); go_simp; try with_reducible rfl
          simp only [Act.put, List.setIfInBounds_toArray, List.set_cons_zero, List.set_cons_succ]
          refine wpAnyH_inv (fun listed a W => ∃ (p : Nat) (q : Bool) (g : Nat) (x8 x49 : Value), listed = #[true, true, true, true, true, true, decide (1 ≤ p), false, false, false, q, false, false] ∧ a = { tmps := #[Value.int .i64 f, Value.slice (some ⟨nb, no, none⟩) l.length cap, undef, undef, u4, Value.bool true, Value.pointer (some ⟨w1.heap.size + 1 + 1 + 1, 0, none⟩), Value.int .i64 (i : Int), x8, u9, u10, u11, u12, u13, Value.bool true, Value.bool true, Value.bool false, Value.bool false, Value.int .i64 f, Value.bool (decide (f < 1)), Value.bool (decide (f < 1)), Value.bool (decide (f < 1)), Value.int .i64 f, Value.bool (decide (100 < f)), Value.bool (decide (f < 1) || decide (100 < f)), Value.bool (decide (f < 1) || decide (100 < f)), Value.slice (some ⟨nb, no, none⟩) l.length cap, Value.int .i64 (l.length : Int), Value.bool (decide ((100 : Int) < (l.length : Int))), Value.bool (decide (f < 1) || decide (100 < f) || decide ((100 : Int) < (l.length : Int))), undef, Value.int .i64 f, Value.slice (some ⟨w1.heap.size, 0, none⟩) 1 1, Value.slice (some ⟨w1.heap.size + 1, 0, none⟩) 1 1, Value.slice (some ⟨w1.heap.size + 1 + 1, 0, none⟩) 1 1, Value.agg #[.int .i64 1, .slice (some ⟨w1.heap.size, 0, none⟩) 1 1, .slice (some ⟨w1.heap.size + 1, 0, none⟩) 1 1, .slice (some ⟨w1.heap.size + 1 + 1, 0, none⟩) 1 1], Value.int .i64 (i : Int), Value.slice (some ⟨nb, no, none⟩) l.length cap, Value.int .i64 (l.length : Int), Value.bool true, u40, u41, u42, Value.agg #[.int .i64 V.epoch, .slice a1 V.chain.length k1, .slice a2 V.since.length k2, .slice a3 V.boot.length k3], Value.slice (some ⟨nb, no, none⟩) l.length cap, Value.int .i64 (i : Int), Value.pointer (some ⟨nb, no + i, none⟩), Value.int .i64 n, Value.int .i64 (i : Int), x49, u50, u51, u52, u53, u54, u55, u56, u57, u58, u59, u60, u61, u62, u63, u64, u65, u66, u67, u68, u69, u70, u71, u72, u73, u74, u75, u76, u77, u78, u79, u80, u81, u82, u83, u84, u85, u86, u87, u88, u89, u90, u91, u92, u93, u94, u95, u96, u97, u98, u99, u100, u101, u102, u103, u104, u105, u106, u107, u108, u109, u110, u111, u112, u113, u114, u115, u116, u117, u118, u119, u120, u121, u122, u123, u124, u125, u126, u127, u128, u129, u130, u131, u132, u133, u134, u135, u136, u137, u138, u139, u140, u141, u142, u143, u144, u145, u146, u147, u148, u149, u150, u151, u152, u153, u154, u155, u156, u157, u158, u159, u160, u161, u162, u163, u164, u165, u166, u167, u168, u169, u170, u171, u172, u173, u174, u175, u176, u177, u178, u179, u180, u181, u182, u183, u184, u185, u186, u187, u188, u189, u190], defers := [] } ∧ (W.cell? ⟨w1.heap.size + 1 + 1 + 1, 0, none⟩ = some (.int .i64 V.epoch) ∧ W.cell? ⟨w1.heap.size + 1 + 1 + 1, 1, none⟩ = some (.slice a1 V.chain.length k1) ∧ W.cell? ⟨w1.heap.size + 1 + 1 + 1, 2, none⟩ = some (.slice a2 V.since.length k2) ∧ W.cell? ⟨w1.heap.size + 1 + 1 + 1, 3, none⟩ = some (.slice a3 V.boot.length k3) ∧ W.cell? ⟨nb, no + i, none⟩ = some (.int .i64 n) ∧ Below wr.heap.size wr W) ∧ (q = true → x8 = .pointer (some ⟨g, 0, none⟩) ∧ wr.heap.size ≤ g ∧ W.heap[g]? = some (.cells #[.int .i64 0, .slice none 0 0, .slice none 0 0, .slice none 0 0] 24)) ∧ (1 ≤ p → ∃ c1 l1 c2 l2 c3 l3, x49 = .tuple #[.agg #[.int .i64 X.epoch, .slice c1 X.chain.length l1, .slice c2 X.since.length l2, .slice c3 X.boot.length l3], .int .i64 code] ∧ IsView W.heap.size W (.agg #[.int .i64 X.epoch, .slice c1 X.chain.length l1, .slice c2 X.since.length l2, .slice c3 X.boot.length l3]) X ∧ FreshV wr.heap.size (.agg #[.int .i64 X.epoch, .slice c1 X.chain.length l1, .slice c2 X.since.length l2, .slice c3 X.boot.length l3]) ∧ (q = true → ∀ v0 v1 v2 v3, IsView W.heap.size ((((W.setCell ⟨g, 0, none⟩ v0).setCell ⟨g, 1, none⟩ v1).setCell ⟨g, 2, none⟩ v2).setCell ⟨g, 3, none⟩ v3) (.agg #[.int .i64 X.epoch, .slice c1 X.chain.length l1, .slice c2 X.since.length l2, .slice c3 X.boot.length l3]) X)) ∧ p ≤ 1) ?_ _ _ _ _ ?_ (by kernel_rfl) (by simp)
          · intro listed a W hJ
            obtain ⟨p, q, g, x8, x49, rfl, rfl, hS, hq5, f4, hp4⟩ := hJ
            by_cases hex : p = 1
            · right
              obtain rfl : p = 1 := hex
              obtain ⟨c1, l1, c2, l2, c3, l3, rfl, hva, hfw, hset⟩ := f4 (by omega)
              clear f4 hp4
              intro m hm
              cases q with
              | true =>
                obtain ⟨rfl, hgl, hgb⟩ := hq5 rfl
                replace hset := hset rfl
                clear hq5
                obtain ⟨m', rfl⟩ : ∃ m', m = m' + 5 := ⟨m - 5, by simp at hm; omega⟩
                clear hm
                refine wpAnyH_take (i := 7) (oi := ?ob7) (v := ?vb7) ?hib7 (by kernel_rfl) (by kernel_rfl) (by kernel_rfl) ?hQb7 ?hyb7 hS ?restb7
                case hib7 => simp only [List.getElem?_toArray, List.getElem?_cons_zero, List.getElem?_cons_succ]; rfl
                case hQb7 => exact fun _ _ _ h => h
                case hyb7 => refine Or.inl ⟨by rfl, ?_⟩; intro W hSw; (try dsimp only at hSw); go_simp; try with_reducible rfl
                simp only [Act.put, List.setIfInBounds_toArray, List.set_cons_zero, List.set_cons_succ]
                refine wpAnyH_take (i := 8) (oi := ?ob8) (v := ?vb8) ?hib8 (by kernel_rfl) (by kernel_rfl) (by kernel_rfl) ?hQb8 ?hyb8 hS ?restb8
                case hib8 => simp only [List.getElem?_toArray, List.getElem?_cons_zero, List.getElem?_cons_succ]; rfl
                case hQb8 => exact fun _ _ _ h => h
                case hyb8 => refine Or.inl ⟨by rfl, ?_⟩; intro W hSw; (try dsimp only at hSw); go_simp; try with_reducible rfl
                simp only [Act.put, List.setIfInBounds_toArray, List.set_cons_zero, List.set_cons_succ]
                refine wpAnyH_take (i := 9) (oi := ?ob9) (v := ?vb9) ?hib9 (by kernel_rfl) (by kernel_rfl) (by kernel_rfl) ?hQb9 ?hyb9 hS ?restb9
                case hib9 => simp only [List.getElem?_toArray, List.getElem?_cons_zero, List.getElem?_cons_succ]; rfl
                case hQb9 => exact fun _ _ _ h => h
                case hyb9 => refine Or.inl ⟨by rfl, ?_⟩; intro W hSw; (try dsimp only at hSw); go_simp; try with_reducible rfl
                simp only [Act.put, List.setIfInBounds_toArray, List.set_cons_zero, List.set_cons_succ]
                obtain ⟨u0', u1', u2', u3'⟩ := block_cells hgb
                obtain ⟨fz0, fz1, fz2, fz3⟩ := block_frozen hgb
                refine wpAnyH_ready (rs := [11]) (by kernel_rfl) (by simp) ?_
                refine AllReadyH.cons (o := ?oot) ?hot (fun K' hK => ?_) AllReadyH.nil
                case hot => simp only [List.getElem?_toArray, List.getElem?_cons_zero, List.getElem?_cons_succ]; rfl
                go_simp
                have bxs := below_set4 (low.out _ hS) g hgl (.int .i64 X.epoch) (.slice c1 X.chain.length l1) (.slice c2 X.since.length l2) (.slice c3 X.boot.length l3)
                refine hK.out _ _ (mkS.out _ bxs) (fun hS2 => ?_)
                clear hK
                refine wpAnyH_take (i := 12) (oi := ?ob12t) (v := ?vb12t) ?hib12t (by kernel_rfl) (by kernel_rfl) (by kernel_rfl) ?hQb12t ?hyb12t hS2 ?restb12t
                case hib12t => simp only [List.getElem?_toArray, List.getElem?_cons_zero, List.getElem?_cons_succ]; rfl
                case hQb12t => exact fun _ _ _ h => h
                case hyb12t => refine Or.inl ⟨by rfl, ?_⟩; intro W hSw; (try dsimp only at hSw); go_simp; try with_reducible rfl
                simp only [Act.put, List.setIfInBounds_toArray, List.set_cons_zero, List.set_cons_succ]
                refine wpAnyH_done (by kernel_rfl) ?_ _
                have hvs := hset (.int .i64 X.epoch) (.slice c1 X.chain.length l1) (.slice c2 X.since.length l2) (.slice c3 X.boot.length l3)
                have hbs := block_set (block_set (block_set (block_set hgb 0 (.int .i64 X.epoch)) 1 (.slice c1 X.chain.length l1)) 2 (.slice c2 X.since.length l2)) 3 (.slice c3 X.boot.length l3)
                clear hgb hset u0' u1' u2' u3' fz0 fz1 fz2 fz3
                go_wp2
                all_goals go_meet
                all_goals
                  case rel => exact ⟨g, c1, l1, c2, l2, c3, l3, rfl, rfl, hgl, hbs, by simpa using hvs, hfw, bxs⟩
              | false =>
                clear hset hq5
                obtain ⟨m', rfl⟩ : ∃ m', m = m' + 6 := ⟨m - 6, by simp at hm; omega⟩
                clear hm
                refine wpAnyH_take (i := 7) (oi := ?oc7) (v := ?vc7) ?hic7 (by kernel_rfl) (by kernel_rfl) (by kernel_rfl) ?hQc7 ?hyc7 hS ?restc7
                case hic7 => simp only [List.getElem?_toArray, List.getElem?_cons_zero, List.getElem?_cons_succ]; rfl
                case hQc7 => exact fun _ _ _ h => h
                case hyc7 => refine Or.inl ⟨by rfl, ?_⟩; intro W hSw; (try dsimp only at hSw); go_simp; try with_reducible rfl
                simp only [Act.put, List.setIfInBounds_toArray, List.set_cons_zero, List.set_cons_succ]
                refine wpAnyH_take (i := 8) (oi := ?oc8) (v := ?vc8) ?hic8 (by kernel_rfl) (by kernel_rfl) (by kernel_rfl) ?hQc8 ?hyc8 hS ?restc8
                case hic8 => simp only [List.getElem?_toArray, List.getElem?_cons_zero, List.getElem?_cons_succ]; rfl
                case hQc8 => exact fun _ _ _ h => h
                case hyc8 => refine Or.inl ⟨by rfl, ?_⟩; intro W hSw; (try dsimp only at hSw); go_simp; try with_reducible rfl
                simp only [Act.put, List.setIfInBounds_toArray, List.set_cons_zero, List.set_cons_succ]
                refine wpAnyH_take (i := 9) (oi := ?oc9) (v := ?vc9) ?hic9 (by kernel_rfl) (by kernel_rfl) (by kernel_rfl) ?hQc9 ?hyc9 hS ?restc9
                case hic9 => simp only [List.getElem?_toArray, List.getElem?_cons_zero, List.getElem?_cons_succ]; rfl
                case hQc9 => exact fun _ _ _ h => h
                case hyc9 => refine Or.inl ⟨by rfl, ?_⟩; intro W hSw; (try dsimp only at hSw); go_simp; try with_reducible rfl
                simp only [Act.put, List.setIfInBounds_toArray, List.set_cons_zero, List.set_cons_succ]
                refine wpAnyH_ready (rs := [10]) (by kernel_rfl) (by simp) ?_
                refine AllReadyH.cons (o := ?oo10z) ?ho10z (fun K' hK => ?_) AllReadyH.nil
                case ho10z => simp only [List.getElem?_toArray, List.getElem?_cons_zero, List.getElem?_cons_succ]; rfl
                go_simp
                have hbW : Below W.heap.size W (W.alloc (.cells #[.int .i64 0, .slice none 0 0, .slice none 0 0, .slice none 0 0] 24)) := (Below.refl _ _).alloc (Nat.le_refl _) _
                refine hK.out _ _ (keep.out _ _ hS hbW) (fun hS1 => ?_)
                clear hK
                have hgb := heap_alloc_new W (.cells #[.int .i64 0, .slice none 0 0, .slice none 0 0, .slice none 0 0] 24)
                have hgl := (low.out _ hS).size
                have hset := fun v0 v1 v2 v3 => (view_set4_hi (hva.keep hbW (Nat.le_refl _)) W.heap.size (Nat.le_refl _) v0 v1 v2 v3).up hbW.size
                clear hbW hva hS
                generalize W.heap.size = g at hgb hgl hset ⊢
                generalize W.alloc (.cells #[.int .i64 0, .slice none 0 0, .slice none 0 0, .slice none 0 0] 24) = W1 at hgb hset hS1 ⊢
                have hS := hS1
                clear hS1
                obtain ⟨u0', u1', u2', u3'⟩ := block_cells hgb
                obtain ⟨fz0, fz1, fz2, fz3⟩ := block_frozen hgb
                refine wpAnyH_ready (rs := [11]) (by kernel_rfl) (by simp) ?_
                refine AllReadyH.cons (o := ?oof) ?hof (fun K' hK => ?_) AllReadyH.nil
                case hof => simp only [List.getElem?_toArray, List.getElem?_cons_zero, List.getElem?_cons_succ]; rfl
                go_simp
                have bxs := below_set4 (low.out _ hS) g hgl (.int .i64 X.epoch) (.slice c1 X.chain.length l1) (.slice c2 X.since.length l2) (.slice c3 X.boot.length l3)
                refine hK.out _ _ (mkS.out _ bxs) (fun hS2 => ?_)
                clear hK
                refine wpAnyH_take (i := 12) (oi := ?ob12f) (v := ?vb12f) ?hib12f (by kernel_rfl) (by kernel_rfl) (by kernel_rfl) ?hQb12f ?hyb12f hS2 ?restb12f
                case hib12f => simp only [List.getElem?_toArray, List.getElem?_cons_zero, List.getElem?_cons_succ]; rfl
                case hQb12f => exact fun _ _ _ h => h
                case hyb12f => refine Or.inl ⟨by rfl, ?_⟩; intro W hSw; (try dsimp only at hSw); go_simp; try with_reducible rfl
                simp only [Act.put, List.setIfInBounds_toArray, List.set_cons_zero, List.set_cons_succ]
                refine wpAnyH_done (by kernel_rfl) ?_ _
                have hvs := hset (.int .i64 X.epoch) (.slice c1 X.chain.length l1) (.slice c2 X.since.length l2) (.slice c3 X.boot.length l3)
                have hbs := block_set (block_set (block_set (block_set hgb 0 (.int .i64 X.epoch)) 1 (.slice c1 X.chain.length l1)) 2 (.slice c2 X.since.length l2)) 3 (.slice c3 X.boot.length l3)
                clear hgb hset u0' u1' u2' u3' fz0 fz1 fz2 fz3
                go_wp2
                all_goals go_meet
                all_goals
                  case rel => exact ⟨g, c1, l1, c2, l2, c3, l3, rfl, rfl, hgl, hbs, by simpa using hvs, hfw, bxs⟩
            · left
              refine ⟨?_, fun i' hi' => ?_⟩
              · obtain rfl : p = 0 := by omega
                cases q <;> decide +kernel
              · obtain ⟨h0, o, ho, hall⟩ := mem_ready.1 hi'
                have hlt' : i' < 13 := by
                  rcases Nat.lt_or_ge i' 13 with h | h
                  · exact h
                  · rw [Array.getElem?_eq_none (by simpa using h)] at ho; cases ho
                rcases (by omega : i' = 0 ∨ i' = 1 ∨ i' = 2 ∨ i' = 3 ∨ i' = 4 ∨ i' = 5 ∨ i' = 6 ∨ i' = 7 ∨ i' = 8 ∨ i' = 9 ∨ i' = 10 ∨ i' = 11 ∨ i' = 12) with rfl | rfl | rfl | rfl | rfl | rfl | rfl | rfl | rfl | rfl | rfl | rfl | rfl
                · cases h0
                · cases h0
                · cases h0
                · cases h0
                · cases h0
                · cases h0
                · have hp0 : p = 0 := by
                    have h1 : decide (1 ≤ p) = false := h0
                    simp only [decide_eq_false_iff_not] at h1
                    omega
                  subst hp0
                  refine wpOp_step (o := ?oo6) ?ho6 (fun K' hK => ?_)
                  case ho6 => simp only [List.getElem?_toArray, List.getElem?_cons_zero, List.getElem?_cons_succ]; rfl
                  have HK := Lib.hid hK
                  clear hK
                  go_simp
                  refine (R.out W (low.out _ hS)).mono ?_
                  rintro e W' ⟨va, rfl, hva, hbW, hfr⟩
                  have hva0 := hva
                  obtain ⟨c1, l1, c2, l2, c3, l3, rfl⟩ := hva0.form
                  have hS' := keep.out _ _ hS hbW
                  exact HK.out _ _ ⟨hS', 1, q, g, x8, (.tuple #[.agg #[.int .i64 X.epoch, .slice c1 X.chain.length l1, .slice c2 X.since.length l2, .slice c3 X.boot.length l3], .int .i64 code]), rfl, rfl, hS', (fun hq => ⟨(hq5 hq).1, (hq5 hq).2.1, (hbW.block g (Array.getElem?_eq_some_iff.1 (hq5 hq).2.2).1).trans (hq5 hq).2.2⟩), (fun _ => ⟨c1, l1, c2, l2, c3, l3, rfl, hva, fresh_mono hfr (low.out _ hS).size, fun hq v0 v1 v2 v3 => view_set4 hva hfr g (Array.getElem?_eq_some_iff.1 (hq5 hq).2.2).1 v0 v1 v2 v3⟩), by omega⟩
                · simp only [List.getElem?_toArray, List.getElem?_cons_succ, List.getElem?_cons_zero, Option.some.injEq] at ho
                  subst ho
                  have h2 : decide (1 ≤ p) = true := hall ⟨6, .data⟩ (by simp) rfl
                  rw [decide_eq_true_eq] at h2
                  omega
                · simp only [List.getElem?_toArray, List.getElem?_cons_succ, List.getElem?_cons_zero, Option.some.injEq] at ho
                  subst ho
                  have h2 : false = true := hall ⟨7, .data⟩ (by simp) rfl
                  cases h2
                · simp only [List.getElem?_toArray, List.getElem?_cons_succ, List.getElem?_cons_zero, Option.some.injEq] at ho
                  subst ho
                  have h2 : false = true := hall ⟨7, .data⟩ (by simp) rfl
                  cases h2
                · have hq : q = false := h0
                  subst hq
                  refine wpOp_step (o := ?oo10) ?ho10 (fun K' hK => ?_)
                  case ho10 => simp only [List.getElem?_toArray, List.getElem?_cons_zero, List.getElem?_cons_succ]; rfl
                  have HK := Lib.hid hK
                  clear hK
                  go_simp
                  have hbW : Below W.heap.size W (W.alloc (.cells #[.int .i64 0, .slice none 0 0, .slice none 0 0, .slice none 0 0] 24)) := (Below.refl _ _).alloc (Nat.le_refl _) _
                  have hS' := keep.out _ _ hS hbW
                  exact HK.out _ _ ⟨hS', p, true, W.heap.size, (.pointer (some ⟨W.heap.size, 0, none⟩)), x49, rfl, rfl, hS', (fun _ => ⟨rfl, (low.out _ hS).size, heap_alloc_new _ _⟩), (fun h => absurd h (by omega)), by omega⟩
                · simp only [List.getElem?_toArray, List.getElem?_cons_succ, List.getElem?_cons_zero, Option.some.injEq] at ho
                  subst ho
                  have h2 : false = true := hall ⟨8, .data⟩ (by simp) rfl
                  cases h2
                · simp only [List.getElem?_toArray, List.getElem?_cons_succ, List.getElem?_cons_zero, Option.some.injEq] at ho
                  subst ho
                  have h2 : false = true := hall ⟨9, .data⟩ (by simp) rfl
                  cases h2
          · exact ⟨0, false, 0, u8, u49, rfl, rfl, hHeld, (fun h => by cases h), (fun h => absurd h (by omega)), by omega⟩
        case rest =>
          obtain ⟨g, c1, l1, c2, l2, c3, l3, rfl, rfl, hgl, hgb, hvX, hfX, hbx⟩ := hcut
          go_upto_if 55 with fail
          go_cut [9] (fun s9 wx => ∃ U code2 e1 m1 e2 m2 e3 m3, s9 = .int .i64 ((code2 : Nat) : Int) ∧ wx.heap[g]? = some (.cells #[.int .i64 U.epoch, .slice e1 U.chain.length m1, .slice e2 U.since.length m2, .slice e3 U.boot.length m3] 24) ∧ IsView wx.heap.size wx (.agg #[.int .i64 U.epoch, .slice e1 U.chain.length m1, .slice e2 U.since.length m2, .slice e3 U.boot.length m3]) U ∧ FreshV wr.heap.size (.agg #[.int .i64 U.epoch, .slice e1 U.chain.length m1, .slice e2 U.since.length m2, .slice e3 U.boot.length m3]) ∧ Below wr.heap.size wr wx ∧ (code2 = 0 → (code = 0 ∧ U = X) ∨ (code = 7 ∧ withoutV V n = (U, 0))))
          case first => as_aux_lemma =>
            by_cases h7 : code = 7
            · subst h7
              obtain ⟨Z, cz, hZ⟩ : ∃ Z cz, withoutV V n = (Z, cz) := ⟨_, _, rfl⟩
              have R2 := Lib.hid (fun (w' : World) (hb' : Below wr.heap.size wr w') => without_fresh wr.heap.size _ V n Z cz hZ w' (HVV.out.keep hb' (Nat.le_refl _)) hb'.size hs)
              have HZ := Lib.hid hZ
              clear hZ
              have hgl2 := (Array.getElem?_eq_some_iff.1 hgb).1
              obtain ⟨u0', u1', u2', u3'⟩ := block_cells hgb
              obtain ⟨fz0, fz1, fz2, fz3⟩ := block_frozen hgb
              have HGB := Lib.hid hgb
              clear hgb
              go_wp2_with fail
              have hcl : wc.drew.cell? ⟨g, 0, none⟩ = some (cellOr wc.drew ⟨g, 0, none⟩) ∧ wc.drew.cell? ⟨g, 1, none⟩ = some (cellOr wc.drew ⟨g, 1, none⟩) ∧ wc.drew.cell? ⟨g, 2, none⟩ = some (cellOr wc.drew ⟨g, 2, none⟩) ∧ wc.drew.cell? ⟨g, 3, none⟩ = some (cellOr wc.drew ⟨g, 3, none⟩) ∧ wc.drew.frozen? ⟨g, 0, none⟩ = false ∧ wc.drew.frozen? ⟨g, 1, none⟩ = false ∧ wc.drew.frozen? ⟨g, 2, none⟩ = false ∧ wc.drew.frozen? ⟨g, 3, none⟩ = false ∧ g < wc.drew.heap.size := ⟨cellOr_some (by rw [show wc.drew.cell? ⟨g, 0, none⟩ = _ from u0']; rfl), cellOr_some (by rw [show wc.drew.cell? ⟨g, 1, none⟩ = _ from u1']; rfl), cellOr_some (by rw [show wc.drew.cell? ⟨g, 2, none⟩ = _ from u2']; rfl), cellOr_some (by rw [show wc.drew.cell? ⟨g, 3, none⟩ = _ from u3']; rfl), fz0, fz1, fz2, fz3, hgl2⟩
              have mk11_0 : ∀ X' : World, Below wr.heap.size wr X' → (X'.cell? ⟨g, 0, none⟩ = some (cellOr X' ⟨g, 0, none⟩) ∧ X'.cell? ⟨g, 1, none⟩ = some (cellOr X' ⟨g, 1, none⟩) ∧ X'.cell? ⟨g, 2, none⟩ = some (cellOr X' ⟨g, 2, none⟩) ∧ X'.cell? ⟨g, 3, none⟩ = some (cellOr X' ⟨g, 3, none⟩) ∧ X'.frozen? ⟨g, 0, none⟩ = false ∧ X'.frozen? ⟨g, 1, none⟩ = false ∧ X'.frozen? ⟨g, 2, none⟩ = false ∧ X'.frozen? ⟨g, 3, none⟩ = false ∧ g < X'.heap.size) → X'.cell? ⟨w1.heap.size + 1 + 1 + 1, 0, none⟩ = some (.int .i64 V.epoch) ∧ X'.cell? ⟨w1.heap.size + 1 + 1 + 1, 1, none⟩ = some (.slice a1 V.chain.length k1) ∧ X'.cell? ⟨w1.heap.size + 1 + 1 + 1, 2, none⟩ = some (.slice a2 V.since.length k2) ∧ X'.cell? ⟨w1.heap.size + 1 + 1 + 1, 3, none⟩ = some (.slice a3 V.boot.length k3) ∧ X'.cell? ⟨nb, no + i, none⟩ = some (.int .i64 n) ∧ X'.cell? ⟨g, 0, none⟩ = some (cellOr X' ⟨g, 0, none⟩) ∧ X'.cell? ⟨g, 1, none⟩ = some (cellOr X' ⟨g, 1, none⟩) ∧ X'.cell? ⟨g, 2, none⟩ = some (cellOr X' ⟨g, 2, none⟩) ∧ X'.cell? ⟨g, 3, none⟩ = some (cellOr X' ⟨g, 3, none⟩) ∧ X'.frozen? ⟨g, 0, none⟩ = false ∧ X'.frozen? ⟨g, 1, none⟩ = false ∧ X'.frozen? ⟨g, 2, none⟩ = false ∧ X'.frozen? ⟨g, 3, none⟩ = false ∧ g < X'.heap.size ∧ Below wr.heap.size wr X' := by
                intro X' hk h
                obtain ⟨y0, y1, y2, y3, y4, y5⟩ := mkS.out X' hk
                obtain ⟨r0, r1, r2, r3, r4, r5, r6, r7, r8⟩ := h
                exact ⟨y0, y1, y2, y3, y4, r0, r1, r2, r3, r4, r5, r6, r7, r8, y5⟩
              have mk11 := Lib.hid mk11_0
              clear mk11_0
              have hh11 := mk11.out wc.drew hbx.drew hcl
              have low11_0 : ∀ X' : World, (X'.cell? ⟨w1.heap.size + 1 + 1 + 1, 0, none⟩ = some (.int .i64 V.epoch) ∧ X'.cell? ⟨w1.heap.size + 1 + 1 + 1, 1, none⟩ = some (.slice a1 V.chain.length k1) ∧ X'.cell? ⟨w1.heap.size + 1 + 1 + 1, 2, none⟩ = some (.slice a2 V.since.length k2) ∧ X'.cell? ⟨w1.heap.size + 1 + 1 + 1, 3, none⟩ = some (.slice a3 V.boot.length k3) ∧ X'.cell? ⟨nb, no + i, none⟩ = some (.int .i64 n) ∧ X'.cell? ⟨g, 0, none⟩ = some (cellOr X' ⟨g, 0, none⟩) ∧ X'.cell? ⟨g, 1, none⟩ = some (cellOr X' ⟨g, 1, none⟩) ∧ X'.cell? ⟨g, 2, none⟩ = some (cellOr X' ⟨g, 2, none⟩) ∧ X'.cell? ⟨g, 3, none⟩ = some (cellOr X' ⟨g, 3, none⟩) ∧ X'.frozen? ⟨g, 0, none⟩ = false ∧ X'.frozen? ⟨g, 1, none⟩ = false ∧ X'.frozen? ⟨g, 2, none⟩ = false ∧ X'.frozen? ⟨g, 3, none⟩ = false ∧ g < X'.heap.size ∧ Below wr.heap.size wr X') → Below wr.heap.size wr X' := fun X' h => h.2.2.2.2.2.2.2.2.2.2.2.2.2.2
              have low11 := Lib.hid low11_0
              clear low11_0
              have keep11_0 : ∀ X' X'' : World, (X'.cell? ⟨w1.heap.size + 1 + 1 + 1, 0, none⟩ = some (.int .i64 V.epoch) ∧ X'.cell? ⟨w1.heap.size + 1 + 1 + 1, 1, none⟩ = some (.slice a1 V.chain.length k1) ∧ X'.cell? ⟨w1.heap.size + 1 + 1 + 1, 2, none⟩ = some (.slice a2 V.since.length k2) ∧ X'.cell? ⟨w1.heap.size + 1 + 1 + 1, 3, none⟩ = some (.slice a3 V.boot.length k3) ∧ X'.cell? ⟨nb, no + i, none⟩ = some (.int .i64 n) ∧ X'.cell? ⟨g, 0, none⟩ = some (cellOr X' ⟨g, 0, none⟩) ∧ X'.cell? ⟨g, 1, none⟩ = some (cellOr X' ⟨g, 1, none⟩) ∧ X'.cell? ⟨g, 2, none⟩ = some (cellOr X' ⟨g, 2, none⟩) ∧ X'.cell? ⟨g, 3, none⟩ = some (cellOr X' ⟨g, 3, none⟩) ∧ X'.frozen? ⟨g, 0, none⟩ = false ∧ X'.frozen? ⟨g, 1, none⟩ = false ∧ X'.frozen? ⟨g, 2, none⟩ = false ∧ X'.frozen? ⟨g, 3, none⟩ = false ∧ g < X'.heap.size ∧ Below wr.heap.size wr X') → Below X'.heap.size X' X'' → X''.cell? ⟨w1.heap.size + 1 + 1 + 1, 0, none⟩ = some (.int .i64 V.epoch) ∧ X''.cell? ⟨w1.heap.size + 1 + 1 + 1, 1, none⟩ = some (.slice a1 V.chain.length k1) ∧ X''.cell? ⟨w1.heap.size + 1 + 1 + 1, 2, none⟩ = some (.slice a2 V.since.length k2) ∧ X''.cell? ⟨w1.heap.size + 1 + 1 + 1, 3, none⟩ = some (.slice a3 V.boot.length k3) ∧ X''.cell? ⟨nb, no + i, none⟩ = some (.int .i64 n) ∧ X''.cell? ⟨g, 0, none⟩ = some (cellOr X'' ⟨g, 0, none⟩) ∧ X''.cell? ⟨g, 1, none⟩ = some (cellOr X'' ⟨g, 1, none⟩) ∧ X''.cell? ⟨g, 2, none⟩ = some (cellOr X'' ⟨g, 2, none⟩) ∧ X''.cell? ⟨g, 3, none⟩ = some (cellOr X'' ⟨g, 3, none⟩) ∧ X''.frozen? ⟨g, 0, none⟩ = false ∧ X''.frozen? ⟨g, 1, none⟩ = false ∧ X''.frozen? ⟨g, 2, none⟩ = false ∧ X''.frozen? ⟨g, 3, none⟩ = false ∧ g < X''.heap.size ∧ Below wr.heap.size wr X'' := by
                intro X' X'' h k
                have hl := low11.out _ h
                obtain ⟨_, _, _, _, _, r0, r1, r2, r3, r4, r5, r6, r7, r8, _⟩ := h
                exact mk11.out X'' (below_more hl hl.size k) ⟨cellOr_keep k r8 r0, cellOr_keep k r8 r1, cellOr_keep k r8 r2, cellOr_keep k r8 r3, (frozen_keep k r8 _).trans r4, (frozen_keep k r8 _).trans r5, (frozen_keep k r8 _).trans r6, (frozen_keep k r8 _).trans r7, Nat.lt_of_lt_of_le r8 k.size⟩
              have keep11 := Lib.hid keep11_0
              clear keep11_0
              have set11_0 : ∀ (X' : World) (v0 v1 v2 v3 : Value), (X'.cell? ⟨w1.heap.size + 1 + 1 + 1, 0, none⟩ = some (.int .i64 V.epoch) ∧ X'.cell? ⟨w1.heap.size + 1 + 1 + 1, 1, none⟩ = some (.slice a1 V.chain.length k1) ∧ X'.cell? ⟨w1.heap.size + 1 + 1 + 1, 2, none⟩ = some (.slice a2 V.since.length k2) ∧ X'.cell? ⟨w1.heap.size + 1 + 1 + 1, 3, none⟩ = some (.slice a3 V.boot.length k3) ∧ X'.cell? ⟨nb, no + i, none⟩ = some (.int .i64 n) ∧ X'.cell? ⟨g, 0, none⟩ = some (cellOr X' ⟨g, 0, none⟩) ∧ X'.cell? ⟨g, 1, none⟩ = some (cellOr X' ⟨g, 1, none⟩) ∧ X'.cell? ⟨g, 2, none⟩ = some (cellOr X' ⟨g, 2, none⟩) ∧ X'.cell? ⟨g, 3, none⟩ = some (cellOr X' ⟨g, 3, none⟩) ∧ X'.frozen? ⟨g, 0, none⟩ = false ∧ X'.frozen? ⟨g, 1, none⟩ = false ∧ X'.frozen? ⟨g, 2, none⟩ = false ∧ X'.frozen? ⟨g, 3, none⟩ = false ∧ g < X'.heap.size ∧ Below wr.heap.size wr X') → ((((X'.setCell ⟨g, 0, none⟩ v0).setCell ⟨g, 1, none⟩ v1).setCell ⟨g, 2, none⟩ v2).setCell ⟨g, 3, none⟩ v3).cell? ⟨w1.heap.size + 1 + 1 + 1, 0, none⟩ = some (.int .i64 V.epoch) ∧ ((((X'.setCell ⟨g, 0, none⟩ v0).setCell ⟨g, 1, none⟩ v1).setCell ⟨g, 2, none⟩ v2).setCell ⟨g, 3, none⟩ v3).cell? ⟨w1.heap.size + 1 + 1 + 1, 1, none⟩ = some (.slice a1 V.chain.length k1) ∧ ((((X'.setCell ⟨g, 0, none⟩ v0).setCell ⟨g, 1, none⟩ v1).setCell ⟨g, 2, none⟩ v2).setCell ⟨g, 3, none⟩ v3).cell? ⟨w1.heap.size + 1 + 1 + 1, 2, none⟩ = some (.slice a2 V.since.length k2) ∧ ((((X'.setCell ⟨g, 0, none⟩ v0).setCell ⟨g, 1, none⟩ v1).setCell ⟨g, 2, none⟩ v2).setCell ⟨g, 3, none⟩ v3).cell? ⟨w1.heap.size + 1 + 1 + 1, 3, none⟩ = some (.slice a3 V.boot.length k3) ∧ ((((X'.setCell ⟨g, 0, none⟩ v0).setCell ⟨g, 1, none⟩ v1).setCell ⟨g, 2, none⟩ v2).setCell ⟨g, 3, none⟩ v3).cell? ⟨nb, no + i, none⟩ = some (.int .i64 n) ∧ ((((X'.setCell ⟨g, 0, none⟩ v0).setCell ⟨g, 1, none⟩ v1).setCell ⟨g, 2, none⟩ v2).setCell ⟨g, 3, none⟩ v3).cell? ⟨g, 0, none⟩ = some (cellOr ((((X'.setCell ⟨g, 0, none⟩ v0).setCell ⟨g, 1, none⟩ v1).setCell ⟨g, 2, none⟩ v2).setCell ⟨g, 3, none⟩ v3) ⟨g, 0, none⟩) ∧ ((((X'.setCell ⟨g, 0, none⟩ v0).setCell ⟨g, 1, none⟩ v1).setCell ⟨g, 2, none⟩ v2).setCell ⟨g, 3, none⟩ v3).cell? ⟨g, 1, none⟩ = some (cellOr ((((X'.setCell ⟨g, 0, none⟩ v0).setCell ⟨g, 1, none⟩ v1).setCell ⟨g, 2, none⟩ v2).setCell ⟨g, 3, none⟩ v3) ⟨g, 1, none⟩) ∧ ((((X'.setCell ⟨g, 0, none⟩ v0).setCell ⟨g, 1, none⟩ v1).setCell ⟨g, 2, none⟩ v2).setCell ⟨g, 3, none⟩ v3).cell? ⟨g, 2, none⟩ = some (cellOr ((((X'.setCell ⟨g, 0, none⟩ v0).setCell ⟨g, 1, none⟩ v1).setCell ⟨g, 2, none⟩ v2).setCell ⟨g, 3, none⟩ v3) ⟨g, 2, none⟩) ∧ ((((X'.setCell ⟨g, 0, none⟩ v0).setCell ⟨g, 1, none⟩ v1).setCell ⟨g, 2, none⟩ v2).setCell ⟨g, 3, none⟩ v3).cell? ⟨g, 3, none⟩ = some (cellOr ((((X'.setCell ⟨g, 0, none⟩ v0).setCell ⟨g, 1, none⟩ v1).setCell ⟨g, 2, none⟩ v2).setCell ⟨g, 3, none⟩ v3) ⟨g, 3, none⟩) ∧ ((((X'.setCell ⟨g, 0, none⟩ v0).setCell ⟨g, 1, none⟩ v1).setCell ⟨g, 2, none⟩ v2).setCell ⟨g, 3, none⟩ v3).frozen? ⟨g, 0, none⟩ = false ∧ ((((X'.setCell ⟨g, 0, none⟩ v0).setCell ⟨g, 1, none⟩ v1).setCell ⟨g, 2, none⟩ v2).setCell ⟨g, 3, none⟩ v3).frozen? ⟨g, 1, none⟩ = false ∧ ((((X'.setCell ⟨g, 0, none⟩ v0).setCell ⟨g, 1, none⟩ v1).setCell ⟨g, 2, none⟩ v2).setCell ⟨g, 3, none⟩ v3).frozen? ⟨g, 2, none⟩ = false ∧ ((((X'.setCell ⟨g, 0, none⟩ v0).setCell ⟨g, 1, none⟩ v1).setCell ⟨g, 2, none⟩ v2).setCell ⟨g, 3, none⟩ v3).frozen? ⟨g, 3, none⟩ = false ∧ g < ((((X'.setCell ⟨g, 0, none⟩ v0).setCell ⟨g, 1, none⟩ v1).setCell ⟨g, 2, none⟩ v2).setCell ⟨g, 3, none⟩ v3).heap.size ∧ Below wr.heap.size wr ((((X'.setCell ⟨g, 0, none⟩ v0).setCell ⟨g, 1, none⟩ v1).setCell ⟨g, 2, none⟩ v2).setCell ⟨g, 3, none⟩ v3) := by
                intro X' v0 v1 v2 v3 h
                have hl := low11.out _ h
                obtain ⟨_, _, _, _, _, r0, r1, r2, r3, r4, r5, r6, r7, r8, _⟩ := h
                refine mk11.out _ (below_set4 hl g hgl v0 v1 v2 v3) ⟨cellOr_set4 r0, cellOr_set4 r1, cellOr_set4 r2, cellOr_set4 r3, ?_, ?_, ?_, ?_, ?_⟩
                · simp only [World.frozen?_setCell]; exact r4
                · simp only [World.frozen?_setCell]; exact r5
                · simp only [World.frozen?_setCell]; exact r6
                · simp only [World.frozen?_setCell]; exact r7
                · simp only [World.size_setCell]; exact r8
              have set11 := Lib.hid set11_0
              clear set11_0
              clear u0' u1' u2' u3' fz0 fz1 fz2 fz3 hcl
              go_region_held3 (fun X' => X'.cell? ⟨w1.heap.size + 1 + 1 + 1, 0, none⟩ = some (.int .i64 V.epoch) ∧ X'.cell? ⟨w1.heap.size + 1 + 1 + 1, 1, none⟩ = some (.slice a1 V.chain.length k1) ∧ X'.cell? ⟨w1.heap.size + 1 + 1 + 1, 2, none⟩ = some (.slice a2 V.since.length k2) ∧ X'.cell? ⟨w1.heap.size + 1 + 1 + 1, 3, none⟩ = some (.slice a3 V.boot.length k3) ∧ X'.cell? ⟨nb, no + i, none⟩ = some (.int .i64 n) ∧ X'.cell? ⟨g, 0, none⟩ = some (cellOr X' ⟨g, 0, none⟩) ∧ X'.cell? ⟨g, 1, none⟩ = some (cellOr X' ⟨g, 1, none⟩) ∧ X'.cell? ⟨g, 2, none⟩ = some (cellOr X' ⟨g, 2, none⟩) ∧ X'.cell? ⟨g, 3, none⟩ = some (cellOr X' ⟨g, 3, none⟩) ∧ X'.frozen? ⟨g, 0, none⟩ = false ∧ X'.frozen? ⟨g, 1, none⟩ = false ∧ X'.frozen? ⟨g, 2, none⟩ = false ∧ X'.frozen? ⟨g, 3, none⟩ = false ∧ g < X'.heap.size ∧ Below wr.heap.size wr X')
                (first | exact hh11 | exact keep11.out _ _ (by assumption) (by assumption) | exact set11.out _ _ _ _ _ (by assumption))
                (first | ((with_reducible refine (R2.out _ ?_).mono ?_); exact low11.out _ (by assumption); rintro e w5 ⟨vz, rfl, hvz, hb5, hfz⟩; have HVZ := Lib.hid hvz; obtain ⟨d1, n1, d2, n2, d3, n3, rfl⟩ := hvz.form; clear hvz))
              have hb5' := hbx.drew.trans (hb5.mono (by rw [World.size_drew]; exact hbx.size))
              have hgb5 := (hb5.block g (by rw [World.size_drew]; exact hgl2)).trans HGB.out
              have hbs := block_set (block_set (block_set (block_set hgb5 0 (.int .i64 Z.epoch)) 1 (.slice d1 Z.chain.length n1)) 2 (.slice d2 Z.since.length n2)) 3 (.slice d3 Z.boot.length n3)
              have hvs := view_set4 HVZ.out hfz g (by rw [World.size_drew]; exact hgl2) (.int .i64 Z.epoch) (.slice d1 Z.chain.length n1) (.slice d2 Z.since.length n2) (.slice d3 Z.boot.length n3)
              have bxs := below_set4 hb5' g hgl (.int .i64 Z.epoch) (.slice d1 Z.chain.length n1) (.slice d2 Z.since.length n2) (.slice d3 Z.boot.length n3)
              have hfz' := fresh_mono hfz (show wr.heap.size ≤ wc.drew.heap.size from hbx.size)
              clear HGB hgb5
              go_wp2
              all_goals go_meet
              all_goals
                case rel => exact ⟨Z, cz, d1, n1, d2, n2, d3, n3, rfl, hbs, by simpa using hvs, hfz', bxs, fun h0 => .inr ⟨by simp, by rw [HZ.out, h0]⟩⟩
            · have g7 : ((code : Int) == 7) = false := by rw [beq_eq_false_iff_ne]; omega
              go_wp2
              all_goals go_meet
              all_goals
                case rel => exact ⟨X, code, c1, l1, c2, l2, c3, l3, rfl, hgb, hvX, hfX, hbx, fun h0 => .inl ⟨h0, rfl⟩⟩
          case rest =>
            obtain ⟨U, code2, e1, m1, e2, m2, e3, m3, rfl, hgb2, hvU, hfU, hbx2, hout⟩ := hcut
            by_cases h0 : code2 = 0
            · subst h0
              rw [show ((0 : Nat) : Int) = 0 from rfl]
              have hout' := hout rfl
              have hsum : ∃ Q, StepV V U n Q ∧ SmallV U ∧ ((code = 0 ∧ withV V n i = (U, 0) ∧ tailV U = n ∧ sinceV U n = U.epoch ∧ bootV U n = i) ∨ (code = 7 ∧ withoutV V n = (U, 0) ∧ placeV U n = -1)) := by
                rcases hout' with ⟨rfl, rfl⟩ | ⟨rfl, hw⟩
                · obtain ⟨W0, k1, k2, k3, k4, k5, _, k7⟩ := with_step HR.out (by rw [HX.out] : (withV V n i).2 = 0)
                  rw [HX.out] at k1
                  injection k1 with k1 _
                  subst k1
                  exact ⟨_, k2, k7, .inl ⟨rfl, HX.out, k3, k4, k5⟩⟩
                · obtain ⟨W0, Q, k1, k2, k3, _, k5, _⟩ := without_step HR.out (by rw [hw] : (withoutV V n).2 = 0)
                  rw [hw] at k1
                  injection k1 with k1 _
                  subst k1
                  exact ⟨Q, k2, k5, .inr ⟨rfl, hw, k3⟩⟩
              clear hout hout'
              obtain ⟨Q, hst, hsU, hio⟩ := hsum
              have hUr := hst.r
              have HST := Lib.hid hst
              have HVU := Lib.hid hvU
              have hVm := (HVV.out.keep hbx2 (Nat.le_refl _)).up hbx2.size
              have HVm := Lib.hid hVm
              have hVm0 := hVm
              rename World => wm
              have hgl2 := (Array.getElem?_eq_some_iff.1 hgb2).1
              have hg6m : wm.heap[w1.heap.size + 1 + 1 + 1]? = some (.cells #[.int .i64 V.epoch, .slice a1 V.chain.length k1, .slice a2 V.since.length k2, .slice a3 V.boot.length k3] 24) := (hbx2.block _ hg6l).trans hg6
              have hg6ml := (Array.getElem?_eq_some_iff.1 hg6m).1
              have hncm : wm.cell? ⟨nb, no + i, none⟩ = some (.int .i64 n) := (hbx2.cell (p := ⟨nb, no + i, none⟩) (World.block_lt_of_cell? _ _ hnc)).trans hnc
              have mkT_0 : ∀ X' : World, Below wm.heap.size wm X' → X'.cell? ⟨w1.heap.size + 1 + 1 + 1, 0, none⟩ = some (.int .i64 V.epoch) ∧ X'.cell? ⟨w1.heap.size + 1 + 1 + 1, 1, none⟩ = some (.slice a1 V.chain.length k1) ∧ X'.cell? ⟨w1.heap.size + 1 + 1 + 1, 2, none⟩ = some (.slice a2 V.since.length k2) ∧ X'.cell? ⟨w1.heap.size + 1 + 1 + 1, 3, none⟩ = some (.slice a3 V.boot.length k3) ∧ X'.cell? ⟨g, 0, none⟩ = some (.int .i64 U.epoch) ∧ X'.cell? ⟨g, 1, none⟩ = some (.slice e1 U.chain.length m1) ∧ X'.cell? ⟨g, 2, none⟩ = some (.slice e2 U.since.length m2) ∧ X'.cell? ⟨g, 3, none⟩ = some (.slice e3 U.boot.length m3) ∧ X'.cell? ⟨nb, no + i, none⟩ = some (.int .i64 n) ∧ Below wm.heap.size wm X' := by
                intro X' hk
                obtain ⟨y0, y1, y2, y3⟩ := block_cells hg6m
                obtain ⟨z0, z1, z2, z3⟩ := block_cells hgb2
                exact ⟨(hk.cell (p := ⟨w1.heap.size + 1 + 1 + 1, 0, none⟩) hg6ml).trans y0, (hk.cell (p := ⟨w1.heap.size + 1 + 1 + 1, 1, none⟩) hg6ml).trans y1, (hk.cell (p := ⟨w1.heap.size + 1 + 1 + 1, 2, none⟩) hg6ml).trans y2, (hk.cell (p := ⟨w1.heap.size + 1 + 1 + 1, 3, none⟩) hg6ml).trans y3,
                  (hk.cell (p := ⟨g, 0, none⟩) hgl2).trans z0, (hk.cell (p := ⟨g, 1, none⟩) hgl2).trans z1, (hk.cell (p := ⟨g, 2, none⟩) hgl2).trans z2, (hk.cell (p := ⟨g, 3, none⟩) hgl2).trans z3,
                  (hk.cell (p := ⟨nb, no + i, none⟩) (World.block_lt_of_cell? _ _ hncm)).trans hncm, hk⟩
              have mkT := Lib.hid mkT_0
              clear mkT_0
              have lowT_0 : ∀ X' : World, (X'.cell? ⟨w1.heap.size + 1 + 1 + 1, 0, none⟩ = some (.int .i64 V.epoch) ∧ X'.cell? ⟨w1.heap.size + 1 + 1 + 1, 1, none⟩ = some (.slice a1 V.chain.length k1) ∧ X'.cell? ⟨w1.heap.size + 1 + 1 + 1, 2, none⟩ = some (.slice a2 V.since.length k2) ∧ X'.cell? ⟨w1.heap.size + 1 + 1 + 1, 3, none⟩ = some (.slice a3 V.boot.length k3) ∧ X'.cell? ⟨g, 0, none⟩ = some (.int .i64 U.epoch) ∧ X'.cell? ⟨g, 1, none⟩ = some (.slice e1 U.chain.length m1) ∧ X'.cell? ⟨g, 2, none⟩ = some (.slice e2 U.since.length m2) ∧ X'.cell? ⟨g, 3, none⟩ = some (.slice e3 U.boot.length m3) ∧ X'.cell? ⟨nb, no + i, none⟩ = some (.int .i64 n) ∧ Below wm.heap.size wm X') → Below wm.heap.size wm X' := fun X' h => h.2.2.2.2.2.2.2.2.2
              have lowT := Lib.hid lowT_0
              clear lowT_0
              have keepT_0 : ∀ X' X'' : World, (X'.cell? ⟨w1.heap.size + 1 + 1 + 1, 0, none⟩ = some (.int .i64 V.epoch) ∧ X'.cell? ⟨w1.heap.size + 1 + 1 + 1, 1, none⟩ = some (.slice a1 V.chain.length k1) ∧ X'.cell? ⟨w1.heap.size + 1 + 1 + 1, 2, none⟩ = some (.slice a2 V.since.length k2) ∧ X'.cell? ⟨w1.heap.size + 1 + 1 + 1, 3, none⟩ = some (.slice a3 V.boot.length k3) ∧ X'.cell? ⟨g, 0, none⟩ = some (.int .i64 U.epoch) ∧ X'.cell? ⟨g, 1, none⟩ = some (.slice e1 U.chain.length m1) ∧ X'.cell? ⟨g, 2, none⟩ = some (.slice e2 U.since.length m2) ∧ X'.cell? ⟨g, 3, none⟩ = some (.slice e3 U.boot.length m3) ∧ X'.cell? ⟨nb, no + i, none⟩ = some (.int .i64 n) ∧ Below wm.heap.size wm X') → Below X'.heap.size X' X'' → X''.cell? ⟨w1.heap.size + 1 + 1 + 1, 0, none⟩ = some (.int .i64 V.epoch) ∧ X''.cell? ⟨w1.heap.size + 1 + 1 + 1, 1, none⟩ = some (.slice a1 V.chain.length k1) ∧ X''.cell? ⟨w1.heap.size + 1 + 1 + 1, 2, none⟩ = some (.slice a2 V.since.length k2) ∧ X''.cell? ⟨w1.heap.size + 1 + 1 + 1, 3, none⟩ = some (.slice a3 V.boot.length k3) ∧ X''.cell? ⟨g, 0, none⟩ = some (.int .i64 U.epoch) ∧ X''.cell? ⟨g, 1, none⟩ = some (.slice e1 U.chain.length m1) ∧ X''.cell? ⟨g, 2, none⟩ = some (.slice e2 U.since.length m2) ∧ X''.cell? ⟨g, 3, none⟩ = some (.slice e3 U.boot.length m3) ∧ X''.cell? ⟨nb, no + i, none⟩ = some (.int .i64 n) ∧ Below wm.heap.size wm X'' := fun X' X'' h k => mkT.out X'' (below_more (lowT.out _ h) (lowT.out _ h).size k)
              have keepT := Lib.hid keepT_0
              clear keepT_0
              have gw : IntKind.i64.wrap (V.epoch + 1) = V.epoch + 1 := IntWalk.i64_in _ (by have := HR.out.e1; omega)
              have gE : (U.epoch != V.epoch + 1) = false := by rw [bne_eq_false_iff_eq]; exact hst.e
              have cR := Lib.hid (fun (X' : World) (hb' : Below wm.heap.size wm X') => right_any wm.heap.size _ U X' (HVU.out.keep hb' (Nat.le_refl _)) hb'.size hsU true (rightB_of hUr).symm)
              clear hst hvU hVm
              go_upto_region 13 with fail
              go_cut [129] (fun s129 wx => s129 = .bool false ∧ Below wm.heap.size wm wx)
              case first => as_aux_lemma =>
                have hT0 := mkT.out wm.drew ((Below.refl _ _).drew)
                rcases hio with ⟨rfl, ho1, ho2, ho3, ho4⟩ | ⟨rfl, ho1, ho2⟩
                · as_aux_lemma =>
                  have cF := Lib.hid (fun (X' : World) (hb' : Below wm.heap.size wm X') => follows_with wm.heap.size wm.heap.size _ _ V U X' (HVm.out.keep hb' (Nat.le_refl _)) (HVU.out.keep hb' (Nat.le_refl _)) hb'.size hb'.size hs hsU HR.out hUr n i hn64 hi64 ho1 ho2 ho4)
                  have cT := Lib.hid (fun (X' : World) (hb' : Below wm.heap.size wm X') => tail_any wm.heap.size _ U n ho2 X' (HVU.out.keep hb' (Nat.le_refl _)) hb'.size hsU)
                  have cS := Lib.hid (fun (X' : World) (hb' : Below wm.heap.size wm X') => since_any wm.heap.size _ U n U.epoch ho3 X' (HVU.out.keep hb' (Nat.le_refl _)) hb'.size hsU)
                  have cB := Lib.hid (fun (X' : World) (hb' : Below wm.heap.size wm X') => boot_any wm.heap.size _ U n i ho4 X' (HVU.out.keep hb' (Nat.le_refl _)) hb'.size hsU)
                  clear ho1 ho2 ho3 ho4 hh mkS low keep hg6 hgb2 hbx hbx2 hvX hfX hfU hgb hg6m hg6ml hgl2 hg6l hnc hncm mkT HST HVm HVU HVV HX HR R C1 HL g1 g2 g3 hb hwr hb1 hw1 hE p1 p2 p3
                  refine region_begin (S := fun X' => X'.cell? ⟨w1.heap.size + 1 + 1 + 1, 0, none⟩ = some (.int .i64 V.epoch) ∧ X'.cell? ⟨w1.heap.size + 1 + 1 + 1, 1, none⟩ = some (.slice a1 V.chain.length k1) ∧ X'.cell? ⟨w1.heap.size + 1 + 1 + 1, 2, none⟩ = some (.slice a2 V.since.length k2) ∧ X'.cell? ⟨w1.heap.size + 1 + 1 + 1, 3, none⟩ = some (.slice a3 V.boot.length k3) ∧ X'.cell? ⟨g, 0, none⟩ = some (.int .i64 U.epoch) ∧ X'.cell? ⟨g, 1, none⟩ = some (.slice e1 U.chain.length m1) ∧ X'.cell? ⟨g, 2, none⟩ = some (.slice e2 U.since.length m2) ∧ X'.cell? ⟨g, 3, none⟩ = some (.slice e3 U.boot.length m3) ∧ X'.cell? ⟨nb, no + i, none⟩ = some (.int .i64 n) ∧ Below wm.heap.size wm X') 63 rfl (by kernel_rfl) hT0 (fun hH0 => ?_)
                  refine wpAnyH_take (i := 0) (oi := ?oin0) (v := ?vin0) ?hiin0 (by kernel_rfl) (by kernel_rfl) (by kernel_rfl) ?hQin0 ?hyin0 hH0 ?restin0
                  case hiin0 => simp only [List.getElem?_toArray, List.getElem?_cons_zero]; rfl
                  case hQin0 => exact fun _ _ _ h => h
                  case hyin0 => refine Or.inl ⟨by rfl, ?_⟩; intro W hSw; (try dsimp only at hSw); go_simp; try with_reducible rfl
                  simp only [Act.put, List.setIfInBounds_toArray, List.set_cons_zero, List.set_cons_succ]
                  refine wpAnyH_ready (rs := [1]) (by kernel_rfl) (by simp) ?_
                  refine AllReadyH.cons (o := ?ooin1) ?hoin1 (fun K' hK => ?_) AllReadyH.nil
                  case hoin1 => simp only [List.getElem?_toArray, List.getElem?_cons_zero, List.getElem?_cons_succ]; rfl
                  go_simp
                  refine (cR.out _ (lowT.out _ hH0)).mono ?_
                  rintro e wz1 ⟨rfl, hbz1⟩
                  refine hK.out _ _ (keepT.out _ _ hH0 hbz1) (fun hH1 => ?_)
                  clear hK
                  refine wpAnyH_take (i := 2) (oi := ?oin2) (v := ?vin2) ?hiin2 (by kernel_rfl) (by kernel_rfl) (by kernel_rfl) ?hQin2 ?hyin2 hH1 ?restin2
                  case hiin2 => simp only [List.getElem?_toArray, List.getElem?_cons_zero, List.getElem?_cons_succ]; rfl
                  case hQin2 => exact fun _ _ _ h => h
                  case hyin2 => refine Or.inl ⟨by rfl, ?_⟩; intro W hSw; (try dsimp only at hSw); go_simp; try with_reducible rfl
                  simp only [Act.put, List.setIfInBounds_toArray, List.set_cons_zero, List.set_cons_succ]
                  refine wpAnyH_take (i := 3) (oi := ?oin3) (v := ?vin3) ?hiin3 (by kernel_rfl) (by kernel_rfl) (by kernel_rfl) ?hQin3 ?hyin3 hH1 ?restin3
                  case hiin3 => simp only [List.getElem?_toArray, List.getElem?_cons_zero, List.getElem?_cons_succ]; rfl
                  case hQin3 => exact fun _ _ _ h => h
                  case hyin3 => refine Or.inl ⟨by rfl, ?_⟩; intro W hSw; (try dsimp only at hSw); go_simp; try with_reducible rfl
                  simp only [Act.put, List.setIfInBounds_toArray, List.set_cons_zero, List.set_cons_succ]
                  refine wpAnyH_take (i := 4) (oi := ?oin4) (v := ?vin4) ?hiin4 (by kernel_rfl) (by kernel_rfl) (by kernel_rfl) ?hQin4 ?hyin4 hH1 ?restin4
                  case hiin4 => simp only [List.getElem?_toArray, List.getElem?_cons_zero, List.getElem?_cons_succ]; rfl
                  case hQin4 => exact fun _ _ _ h => h
                  case hyin4 => refine Or.inl ⟨by rfl, ?_⟩; intro W hSw; (try dsimp only at hSw); go_simp; try with_reducible rfl
                  simp only [Act.put, List.setIfInBounds_toArray, List.set_cons_zero, List.set_cons_succ]
                  refine wpAnyH_take (i := 5) (oi := ?oin5) (v := ?vin5) ?hiin5 (by kernel_rfl) (by kernel_rfl) (by kernel_rfl) ?hQin5 ?hyin5 hH1 ?restin5
                  case hiin5 => simp only [List.getElem?_toArray, List.getElem?_cons_zero, List.getElem?_cons_succ]; rfl
                  case hQin5 => exact fun _ _ _ h => h
                  case hyin5 => refine Or.inl ⟨by rfl, ?_⟩; intro W hSw; (try dsimp only at hSw); go_simp; try with_reducible rfl
                  simp only [Act.put, List.setIfInBounds_toArray, List.set_cons_zero, List.set_cons_succ]
                  refine wpAnyH_ready (rs := [6]) (by kernel_rfl) (by simp) ?_
                  refine AllReadyH.cons (o := ?ooin6) ?hoin6 (fun K' hK => ?_) AllReadyH.nil
                  case hoin6 => simp only [List.getElem?_toArray, List.getElem?_cons_zero, List.getElem?_cons_succ]; rfl
                  go_simp
                  refine (cF.out _ (lowT.out _ hH1)).mono ?_
                  rintro e wz2 ⟨rfl, hbz2⟩
                  refine hK.out _ _ (keepT.out _ _ hH1 hbz2) (fun hH2 => ?_)
                  clear hK
                  refine wpAnyH_take (i := 7) (oi := ?oin7) (v := ?vin7) ?hiin7 (by kernel_rfl) (by kernel_rfl) (by kernel_rfl) ?hQin7 ?hyin7 hH2 ?restin7
                  case hiin7 => simp only [List.getElem?_toArray, List.getElem?_cons_zero, List.getElem?_cons_succ]; rfl
                  case hQin7 => exact fun _ _ _ h => h
                  case hyin7 => refine Or.inl ⟨by rfl, ?_⟩; intro W hSw; (try dsimp only at hSw); go_simp; try with_reducible rfl
                  simp only [Act.put, List.setIfInBounds_toArray, List.set_cons_zero, List.set_cons_succ]
                  refine wpAnyH_take (i := 8) (oi := ?oin8) (v := ?vin8) ?hiin8 (by kernel_rfl) (by kernel_rfl) (by kernel_rfl) ?hQin8 ?hyin8 hH2 ?restin8
                  case hiin8 => simp only [List.getElem?_toArray, List.getElem?_cons_zero, List.getElem?_cons_succ]; rfl
                  case hQin8 => exact fun _ _ _ h => h
                  case hyin8 => refine Or.inl ⟨by rfl, ?_⟩; intro W hSw; (try dsimp only at hSw); go_simp; try with_reducible rfl
                  simp only [Act.put, List.setIfInBounds_toArray, List.set_cons_zero, List.set_cons_succ]
                  refine wpAnyH_take (i := 9) (oi := ?oin9) (v := ?vin9) ?hiin9 (by kernel_rfl) (by kernel_rfl) (by kernel_rfl) ?hQin9 ?hyin9 hH2 ?restin9
                  case hiin9 => simp only [List.getElem?_toArray, List.getElem?_cons_zero, List.getElem?_cons_succ]; rfl
                  case hQin9 => exact fun _ _ _ h => h
                  case hyin9 => refine Or.inl ⟨by rfl, ?_⟩; intro W hSw; (try dsimp only at hSw); go_simp; try with_reducible rfl
                  simp only [Act.put, List.setIfInBounds_toArray, List.set_cons_zero, List.set_cons_succ]
                  refine wpAnyH_take (i := 10) (oi := ?oin10) (v := ?vin10) ?hiin10 (by kernel_rfl) (by kernel_rfl) (by kernel_rfl) ?hQin10 ?hyin10 hH2 ?restin10
                  case hiin10 => simp only [List.getElem?_toArray, List.getElem?_cons_zero, List.getElem?_cons_succ]; rfl
                  case hQin10 => exact fun _ _ _ h => h
                  case hyin10 => refine Or.inl ⟨by rfl, ?_⟩; intro W hSw; (try dsimp only at hSw); go_simp; try with_reducible rfl
                  simp only [Act.put, List.setIfInBounds_toArray, List.set_cons_zero, List.set_cons_succ]
                  refine wpAnyH_take (i := 11) (oi := ?oin11) (v := ?vin11) ?hiin11 (by kernel_rfl) (by kernel_rfl) (by kernel_rfl) ?hQin11 ?hyin11 hH2 ?restin11
                  case hiin11 => simp only [List.getElem?_toArray, List.getElem?_cons_zero, List.getElem?_cons_succ]; rfl
                  case hQin11 => exact fun _ _ _ h => h
                  case hyin11 => refine Or.inl ⟨by rfl, ?_⟩; intro W hSw; (try dsimp only at hSw); go_simp; try with_reducible rfl
                  simp only [Act.put, List.setIfInBounds_toArray, List.set_cons_zero, List.set_cons_succ]
                  refine wpAnyH_take (i := 12) (oi := ?oin12) (v := ?vin12) ?hiin12 (by kernel_rfl) (by kernel_rfl) (by kernel_rfl) ?hQin12 ?hyin12 hH2 ?restin12
                  case hiin12 => simp only [List.getElem?_toArray, List.getElem?_cons_zero, List.getElem?_cons_succ]; rfl
                  case hQin12 => exact fun _ _ _ h => h
                  case hyin12 => refine Or.inl ⟨by rfl, ?_⟩; intro W hSw; (try dsimp only at hSw); go_simp; try with_reducible rfl
                  simp only [Act.put, List.setIfInBounds_toArray, List.set_cons_zero, List.set_cons_succ]
                  refine wpAnyH_take (i := 13) (oi := ?oin13) (v := ?vin13) ?hiin13 (by kernel_rfl) (by kernel_rfl) (by kernel_rfl) ?hQin13 ?hyin13 hH2 ?restin13
                  case hiin13 => simp only [List.getElem?_toArray, List.getElem?_cons_zero, List.getElem?_cons_succ]; rfl
                  case hQin13 => exact fun _ _ _ h => h
                  case hyin13 => refine Or.inl ⟨by rfl, ?_⟩; intro W hSw; (try dsimp only at hSw); go_simp; try with_reducible rfl
                  simp only [Act.put, List.setIfInBounds_toArray, List.set_cons_zero, List.set_cons_succ]
                  refine wpAnyH_take (i := 14) (oi := ?oin14) (v := ?vin14) ?hiin14 (by kernel_rfl) (by kernel_rfl) (by kernel_rfl) ?hQin14 ?hyin14 hH2 ?restin14
                  case hiin14 => simp only [List.getElem?_toArray, List.getElem?_cons_zero, List.getElem?_cons_succ]; rfl
                  case hQin14 => exact fun _ _ _ h => h
                  case hyin14 => refine Or.inl ⟨by rfl, ?_⟩; intro W hSw; (try dsimp only at hSw); go_simp; try with_reducible rfl
                  simp only [Act.put, List.setIfInBounds_toArray, List.set_cons_zero, List.set_cons_succ]
                  refine wpAnyH_take (i := 15) (oi := ?oin15) (v := ?vin15) ?hiin15 (by kernel_rfl) (by kernel_rfl) (by kernel_rfl) ?hQin15 ?hyin15 hH2 ?restin15
                  case hiin15 => simp only [List.getElem?_toArray, List.getElem?_cons_zero, List.getElem?_cons_succ]; rfl
                  case hQin15 => exact fun _ _ _ h => h
                  case hyin15 => refine Or.inl ⟨by rfl, ?_⟩; intro W hSw; (try dsimp only at hSw); go_simp; try with_reducible rfl
                  simp only [Act.put, List.setIfInBounds_toArray, List.set_cons_zero, List.set_cons_succ]
                  refine wpAnyH_take (i := 16) (oi := ?oin16) (v := ?vin16) ?hiin16 (by kernel_rfl) (by kernel_rfl) (by kernel_rfl) ?hQin16 ?hyin16 hH2 ?restin16
                  case hiin16 => simp only [List.getElem?_toArray, List.getElem?_cons_zero, List.getElem?_cons_succ]; rfl
                  case hQin16 => exact fun _ _ _ h => h
                  case hyin16 => refine Or.inl ⟨by rfl, ?_⟩; intro W hSw; (try dsimp only at hSw); go_simp; try with_reducible rfl
                  simp only [Act.put, List.setIfInBounds_toArray, List.set_cons_zero, List.set_cons_succ]
                  refine wpAnyH_take (i := 17) (oi := ?oin17) (v := ?vin17) ?hiin17 (by kernel_rfl) (by kernel_rfl) (by kernel_rfl) ?hQin17 ?hyin17 hH2 ?restin17
                  case hiin17 => simp only [List.getElem?_toArray, List.getElem?_cons_zero, List.getElem?_cons_succ]; rfl
                  case hQin17 => exact fun _ _ _ h => h
                  case hyin17 => refine Or.inl ⟨by rfl, ?_⟩; intro W hSw; (try dsimp only at hSw); go_simp; try with_reducible rfl
                  simp only [Act.put, List.setIfInBounds_toArray, List.set_cons_zero, List.set_cons_succ]
                  refine wpAnyH_take (i := 18) (oi := ?oin18) (v := ?vin18) ?hiin18 (by kernel_rfl) (by kernel_rfl) (by kernel_rfl) ?hQin18 ?hyin18 hH2 ?restin18
                  case hiin18 => simp only [List.getElem?_toArray, List.getElem?_cons_zero, List.getElem?_cons_succ]; rfl
                  case hQin18 => exact fun _ _ _ h => h
                  case hyin18 => refine Or.inl ⟨by rfl, ?_⟩; intro W hSw; (try dsimp only at hSw); go_simp; try with_reducible rfl
                  simp only [Act.put, List.setIfInBounds_toArray, List.set_cons_zero, List.set_cons_succ]
                  refine wpAnyH_take (i := 19) (oi := ?oin19) (v := ?vin19) ?hiin19 (by kernel_rfl) (by kernel_rfl) (by kernel_rfl) ?hQin19 ?hyin19 hH2 ?restin19
                  case hiin19 => simp only [List.getElem?_toArray, List.getElem?_cons_zero, List.getElem?_cons_succ]; rfl
                  case hQin19 => exact fun _ _ _ h => h
                  case hyin19 => refine Or.inl ⟨by rfl, ?_⟩; intro W hSw; (try dsimp only at hSw); go_simp; try with_reducible rfl
                  simp only [Act.put, List.setIfInBounds_toArray, List.set_cons_zero, List.set_cons_succ]
                  refine wpAnyH_take (i := 20) (oi := ?oin20) (v := ?vin20) ?hiin20 (by kernel_rfl) (by kernel_rfl) (by kernel_rfl) ?hQin20 ?hyin20 hH2 ?restin20
                  case hiin20 => simp only [List.getElem?_toArray, List.getElem?_cons_zero, List.getElem?_cons_succ]; rfl
                  case hQin20 => exact fun _ _ _ h => h
                  case hyin20 => refine Or.inl ⟨by rfl, ?_⟩; intro W hSw; (try dsimp only at hSw); go_simp; try with_reducible rfl
                  simp only [Act.put, List.setIfInBounds_toArray, List.set_cons_zero, List.set_cons_succ]
                  refine wpAnyH_take (i := 22) (oi := ?oin22) (v := ?vin22) ?hiin22 (by kernel_rfl) (by kernel_rfl) (by kernel_rfl) ?hQin22 ?hyin22 hH2 ?restin22
                  case hiin22 => simp only [List.getElem?_toArray, List.getElem?_cons_zero, List.getElem?_cons_succ]; rfl
                  case hQin22 => exact fun _ _ _ h => h
                  case hyin22 => refine Or.inl ⟨by rfl, ?_⟩; intro W hSw; (try dsimp only at hSw); go_simp; try with_reducible rfl
                  simp only [Act.put, List.setIfInBounds_toArray, List.set_cons_zero, List.set_cons_succ]
                  refine wpAnyH_take (i := 23) (oi := ?oin23) (v := ?vin23) ?hiin23 (by kernel_rfl) (by kernel_rfl) (by kernel_rfl) ?hQin23 ?hyin23 hH2 ?restin23
                  case hiin23 => simp only [List.getElem?_toArray, List.getElem?_cons_zero, List.getElem?_cons_succ]; rfl
                  case hQin23 => exact fun _ _ _ h => h
                  case hyin23 => refine Or.inl ⟨by rfl, ?_⟩; intro W hSw; (try dsimp only at hSw); go_simp; try with_reducible rfl
                  simp only [Act.put, List.setIfInBounds_toArray, List.set_cons_zero, List.set_cons_succ]
                  refine wpAnyH_take (i := 24) (oi := ?oin24) (v := ?vin24) ?hiin24 (by kernel_rfl) (by kernel_rfl) (by kernel_rfl) ?hQin24 ?hyin24 hH2 ?restin24
                  case hiin24 => simp only [List.getElem?_toArray, List.getElem?_cons_zero, List.getElem?_cons_succ]; rfl
                  case hQin24 => exact fun _ _ _ h => h
                  case hyin24 => refine Or.inl ⟨by rfl, ?_⟩; intro W hSw; (try dsimp only at hSw); go_simp; try with_reducible rfl
                  simp only [Act.put, List.setIfInBounds_toArray, List.set_cons_zero, List.set_cons_succ]
                  refine wpAnyH_take (i := 25) (oi := ?oin25) (v := ?vin25) ?hiin25 (by kernel_rfl) (by kernel_rfl) (by kernel_rfl) ?hQin25 ?hyin25 hH2 ?restin25
                  case hiin25 => simp only [List.getElem?_toArray, List.getElem?_cons_zero, List.getElem?_cons_succ]; rfl
                  case hQin25 => exact fun _ _ _ h => h
                  case hyin25 => refine Or.inl ⟨by rfl, ?_⟩; intro W hSw; (try dsimp only at hSw); go_simp; try with_reducible rfl
                  simp only [Act.put, List.setIfInBounds_toArray, List.set_cons_zero, List.set_cons_succ]
                  refine wpAnyH_ready (rs := [21]) (by kernel_rfl) (by simp) ?_
                  refine AllReadyH.cons (o := ?ooin21) ?hoin21 (fun K' hK => ?_) AllReadyH.nil
                  case hoin21 => simp only [List.getElem?_toArray, List.getElem?_cons_zero, List.getElem?_cons_succ]; rfl
                  go_simp
                  refine (cT.out _ (lowT.out _ hH2)).mono ?_
                  rintro e wz3 ⟨rfl, hbz3⟩
                  refine hK.out _ _ (keepT.out _ _ hH2 hbz3) (fun hH3 => ?_)
                  clear hK
                  refine wpAnyH_take (i := 26) (oi := ?oin26) (v := ?vin26) ?hiin26 (by kernel_rfl) (by kernel_rfl) (by kernel_rfl) ?hQin26 ?hyin26 hH3 ?restin26
                  case hiin26 => simp only [List.getElem?_toArray, List.getElem?_cons_zero, List.getElem?_cons_succ]; rfl
                  case hQin26 => exact fun _ _ _ h => h
                  case hyin26 => refine Or.inl ⟨by rfl, ?_⟩; intro W hSw; (try dsimp only at hSw); go_simp; try with_reducible rfl
                  simp only [Act.put, List.setIfInBounds_toArray, List.set_cons_zero, List.set_cons_succ]
                  refine wpAnyH_take (i := 27) (oi := ?oin27) (v := ?vin27) ?hiin27 (by kernel_rfl) (by kernel_rfl) (by kernel_rfl) ?hQin27 ?hyin27 hH3 ?restin27
                  case hiin27 => simp only [List.getElem?_toArray, List.getElem?_cons_zero, List.getElem?_cons_succ]; rfl
                  case hQin27 => exact fun _ _ _ h => h
                  case hyin27 => refine Or.inl ⟨by rfl, ?_⟩; intro W hSw; (try dsimp only at hSw); go_simp; try with_reducible rfl
                  simp only [Act.put, List.setIfInBounds_toArray, List.set_cons_zero, List.set_cons_succ]
                  refine wpAnyH_take (i := 28) (oi := ?oin28) (v := ?vin28) ?hiin28 (by kernel_rfl) (by kernel_rfl) (by kernel_rfl) ?hQin28 ?hyin28 hH3 ?restin28
                  case hiin28 => simp only [List.getElem?_toArray, List.getElem?_cons_zero, List.getElem?_cons_succ]; rfl
                  case hQin28 => exact fun _ _ _ h => h
                  case hyin28 => refine Or.inl ⟨by rfl, ?_⟩; intro W hSw; (try dsimp only at hSw); go_simp; try with_reducible rfl
                  simp only [Act.put, List.setIfInBounds_toArray, List.set_cons_zero, List.set_cons_succ]
                  refine wpAnyH_take (i := 29) (oi := ?oin29) (v := ?vin29) ?hiin29 (by kernel_rfl) (by kernel_rfl) (by kernel_rfl) ?hQin29 ?hyin29 hH3 ?restin29
                  case hiin29 => simp only [List.getElem?_toArray, List.getElem?_cons_zero, List.getElem?_cons_succ]; rfl
                  case hQin29 => exact fun _ _ _ h => h
                  case hyin29 => refine Or.inl ⟨by rfl, ?_⟩; intro W hSw; (try dsimp only at hSw); go_simp; try with_reducible rfl
                  simp only [Act.put, List.setIfInBounds_toArray, List.set_cons_zero, List.set_cons_succ]
                  refine wpAnyH_take (i := 30) (oi := ?oin30) (v := ?vin30) ?hiin30 (by kernel_rfl) (by kernel_rfl) (by kernel_rfl) ?hQin30 ?hyin30 hH3 ?restin30
                  case hiin30 => simp only [List.getElem?_toArray, List.getElem?_cons_zero, List.getElem?_cons_succ]; rfl
                  case hQin30 => exact fun _ _ _ h => h
                  case hyin30 => refine Or.inl ⟨by rfl, ?_⟩; intro W hSw; (try dsimp only at hSw); go_simp; try with_reducible rfl
                  simp only [Act.put, List.setIfInBounds_toArray, List.set_cons_zero, List.set_cons_succ]
                  refine wpAnyH_take (i := 31) (oi := ?oin31) (v := ?vin31) ?hiin31 (by kernel_rfl) (by kernel_rfl) (by kernel_rfl) ?hQin31 ?hyin31 hH3 ?restin31
                  case hiin31 => simp only [List.getElem?_toArray, List.getElem?_cons_zero, List.getElem?_cons_succ]; rfl
                  case hQin31 => exact fun _ _ _ h => h
                  case hyin31 => refine Or.inl ⟨by rfl, ?_⟩; intro W hSw; (try dsimp only at hSw); go_simp; try with_reducible rfl
                  simp only [Act.put, List.setIfInBounds_toArray, List.set_cons_zero, List.set_cons_succ]
                  refine wpAnyH_take (i := 32) (oi := ?oin32) (v := ?vin32) ?hiin32 (by kernel_rfl) (by kernel_rfl) (by kernel_rfl) ?hQin32 ?hyin32 hH3 ?restin32
                  case hiin32 => simp only [List.getElem?_toArray, List.getElem?_cons_zero, List.getElem?_cons_succ]; rfl
                  case hQin32 => exact fun _ _ _ h => h
                  case hyin32 => refine Or.inl ⟨by rfl, ?_⟩; intro W hSw; (try dsimp only at hSw); go_simp; try with_reducible rfl
                  simp only [Act.put, List.setIfInBounds_toArray, List.set_cons_zero, List.set_cons_succ]
                  refine wpAnyH_take (i := 34) (oi := ?oin34) (v := ?vin34) ?hiin34 (by kernel_rfl) (by kernel_rfl) (by kernel_rfl) ?hQin34 ?hyin34 hH3 ?restin34
                  case hiin34 => simp only [List.getElem?_toArray, List.getElem?_cons_zero, List.getElem?_cons_succ]; rfl
                  case hQin34 => exact fun _ _ _ h => h
                  case hyin34 => refine Or.inl ⟨by rfl, ?_⟩; intro W hSw; (try dsimp only at hSw); go_simp; try with_reducible rfl
                  simp only [Act.put, List.setIfInBounds_toArray, List.set_cons_zero, List.set_cons_succ]
                  refine wpAnyH_take (i := 35) (oi := ?oin35) (v := ?vin35) ?hiin35 (by kernel_rfl) (by kernel_rfl) (by kernel_rfl) ?hQin35 ?hyin35 hH3 ?restin35
                  case hiin35 => simp only [List.getElem?_toArray, List.getElem?_cons_zero, List.getElem?_cons_succ]; rfl
                  case hQin35 => exact fun _ _ _ h => h
                  case hyin35 => refine Or.inl ⟨by rfl, ?_⟩; intro W hSw; (try dsimp only at hSw); go_simp; try with_reducible rfl
                  simp only [Act.put, List.setIfInBounds_toArray, List.set_cons_zero, List.set_cons_succ]
                  refine wpAnyH_ready (rs := [33]) (by kernel_rfl) (by simp) ?_
                  refine AllReadyH.cons (o := ?ooin33) ?hoin33 (fun K' hK => ?_) AllReadyH.nil
                  case hoin33 => simp only [List.getElem?_toArray, List.getElem?_cons_zero, List.getElem?_cons_succ]; rfl
                  go_simp
                  refine (cS.out _ (lowT.out _ hH3)).mono ?_
                  rintro e wz4 ⟨rfl, hbz4⟩
                  refine hK.out _ _ (keepT.out _ _ hH3 hbz4) (fun hH4 => ?_)
                  clear hK
                  refine wpAnyH_take (i := 36) (oi := ?oin36) (v := ?vin36) ?hiin36 (by kernel_rfl) (by kernel_rfl) (by kernel_rfl) ?hQin36 ?hyin36 hH4 ?restin36
                  case hiin36 => simp only [List.getElem?_toArray, List.getElem?_cons_zero, List.getElem?_cons_succ]; rfl
                  case hQin36 => exact fun _ _ _ h => h
                  case hyin36 => refine Or.inl ⟨by rfl, ?_⟩; intro W hSw; (try dsimp only at hSw); go_simp; try with_reducible rfl
                  simp only [Act.put, List.setIfInBounds_toArray, List.set_cons_zero, List.set_cons_succ]
                  refine wpAnyH_take (i := 37) (oi := ?oin37) (v := ?vin37) ?hiin37 (by kernel_rfl) (by kernel_rfl) (by kernel_rfl) ?hQin37 ?hyin37 hH4 ?restin37
                  case hiin37 => simp only [List.getElem?_toArray, List.getElem?_cons_zero, List.getElem?_cons_succ]; rfl
                  case hQin37 => exact fun _ _ _ h => h
                  case hyin37 => refine Or.inl ⟨by rfl, ?_⟩; intro W hSw; (try dsimp only at hSw); go_simp; try with_reducible rfl
                  simp only [Act.put, List.setIfInBounds_toArray, List.set_cons_zero, List.set_cons_succ]
                  refine wpAnyH_take (i := 38) (oi := ?oin38) (v := ?vin38) ?hiin38 (by kernel_rfl) (by kernel_rfl) (by kernel_rfl) ?hQin38 ?hyin38 hH4 ?restin38
                  case hiin38 => simp only [List.getElem?_toArray, List.getElem?_cons_zero, List.getElem?_cons_succ]; rfl
                  case hQin38 => exact fun _ _ _ h => h
                  case hyin38 => refine Or.inl ⟨by rfl, ?_⟩; intro W hSw; (try dsimp only at hSw); go_simp; try with_reducible rfl
                  simp only [Act.put, List.setIfInBounds_toArray, List.set_cons_zero, List.set_cons_succ]
                  refine wpAnyH_take (i := 39) (oi := ?oin39) (v := ?vin39) ?hiin39 (by kernel_rfl) (by kernel_rfl) (by kernel_rfl) ?hQin39 ?hyin39 hH4 ?restin39
                  case hiin39 => simp only [List.getElem?_toArray, List.getElem?_cons_zero, List.getElem?_cons_succ]; rfl
                  case hQin39 => exact fun _ _ _ h => h
                  case hyin39 => refine Or.inl ⟨by rfl, ?_⟩; intro W hSw; (try dsimp only at hSw); go_simp; try with_reducible rfl
                  simp only [Act.put, List.setIfInBounds_toArray, List.set_cons_zero, List.set_cons_succ]
                  refine wpAnyH_take (i := 40) (oi := ?oin40) (v := ?vin40) ?hiin40 (by kernel_rfl) (by kernel_rfl) (by kernel_rfl) ?hQin40 ?hyin40 hH4 ?restin40
                  case hiin40 => simp only [List.getElem?_toArray, List.getElem?_cons_zero, List.getElem?_cons_succ]; rfl
                  case hQin40 => exact fun _ _ _ h => h
                  case hyin40 => refine Or.inl ⟨by rfl, ?_⟩; intro W hSw; (try dsimp only at hSw); go_simp; try with_reducible rfl
                  simp only [Act.put, List.setIfInBounds_toArray, List.set_cons_zero, List.set_cons_succ]
                  refine wpAnyH_take (i := 41) (oi := ?oin41) (v := ?vin41) ?hiin41 (by kernel_rfl) (by kernel_rfl) (by kernel_rfl) ?hQin41 ?hyin41 hH4 ?restin41
                  case hiin41 => simp only [List.getElem?_toArray, List.getElem?_cons_zero, List.getElem?_cons_succ]; rfl
                  case hQin41 => exact fun _ _ _ h => h
                  case hyin41 => refine Or.inl ⟨by rfl, ?_⟩; intro W hSw; (try dsimp only at hSw); go_simp; try with_reducible rfl
                  simp only [Act.put, List.setIfInBounds_toArray, List.set_cons_zero, List.set_cons_succ]
                  refine wpAnyH_take (i := 42) (oi := ?oin42) (v := ?vin42) ?hiin42 (by kernel_rfl) (by kernel_rfl) (by kernel_rfl) ?hQin42 ?hyin42 hH4 ?restin42
                  case hiin42 => simp only [List.getElem?_toArray, List.getElem?_cons_zero, List.getElem?_cons_succ]; rfl
                  case hQin42 => exact fun _ _ _ h => h
                  case hyin42 => refine Or.inl ⟨by rfl, ?_⟩; intro W hSw; (try dsimp only at hSw); go_simp; try with_reducible rfl
                  simp only [Act.put, List.setIfInBounds_toArray, List.set_cons_zero, List.set_cons_succ]
                  refine wpAnyH_take (i := 43) (oi := ?oin43) (v := ?vin43) ?hiin43 (by kernel_rfl) (by kernel_rfl) (by kernel_rfl) ?hQin43 ?hyin43 hH4 ?restin43
                  case hiin43 => simp only [List.getElem?_toArray, List.getElem?_cons_zero, List.getElem?_cons_succ]; rfl
                  case hQin43 => exact fun _ _ _ h => h
                  case hyin43 => refine Or.inl ⟨by rfl, ?_⟩; intro W hSw; (try dsimp only at hSw); go_simp; try with_reducible rfl
                  simp only [Act.put, List.setIfInBounds_toArray, List.set_cons_zero, List.set_cons_succ]
                  refine wpAnyH_take (i := 45) (oi := ?oin45) (v := ?vin45) ?hiin45 (by kernel_rfl) (by kernel_rfl) (by kernel_rfl) ?hQin45 ?hyin45 hH4 ?restin45
                  case hiin45 => simp only [List.getElem?_toArray, List.getElem?_cons_zero, List.getElem?_cons_succ]; rfl
                  case hQin45 => exact fun _ _ _ h => h
                  case hyin45 => refine Or.inl ⟨by rfl, ?_⟩; intro W hSw; (try dsimp only at hSw); go_simp; try with_reducible rfl
                  simp only [Act.put, List.setIfInBounds_toArray, List.set_cons_zero, List.set_cons_succ]
                  refine wpAnyH_ready (rs := [44]) (by kernel_rfl) (by simp) ?_
                  refine AllReadyH.cons (o := ?ooin44) ?hoin44 (fun K' hK => ?_) AllReadyH.nil
                  case hoin44 => simp only [List.getElem?_toArray, List.getElem?_cons_zero, List.getElem?_cons_succ]; rfl
                  go_simp
                  refine (cB.out _ (lowT.out _ hH4)).mono ?_
                  rintro e wz5 ⟨rfl, hbz5⟩
                  refine hK.out _ _ (keepT.out _ _ hH4 hbz5) (fun hH5 => ?_)
                  clear hK
                  refine wpAnyH_take (i := 46) (oi := ?oin46) (v := ?vin46) ?hiin46 (by kernel_rfl) (by kernel_rfl) (by kernel_rfl) ?hQin46 ?hyin46 hH5 ?restin46
                  case hiin46 => simp only [List.getElem?_toArray, List.getElem?_cons_zero, List.getElem?_cons_succ]; rfl
                  case hQin46 => exact fun _ _ _ h => h
                  case hyin46 => refine Or.inl ⟨by rfl, ?_⟩; intro W hSw; (try dsimp only at hSw); go_simp; try with_reducible rfl
                  simp only [Act.put, List.setIfInBounds_toArray, List.set_cons_zero, List.set_cons_succ]
                  refine wpAnyH_take (i := 47) (oi := ?oin47) (v := ?vin47) ?hiin47 (by kernel_rfl) (by kernel_rfl) (by kernel_rfl) ?hQin47 ?hyin47 hH5 ?restin47
                  case hiin47 => simp only [List.getElem?_toArray, List.getElem?_cons_zero, List.getElem?_cons_succ]; rfl
                  case hQin47 => exact fun _ _ _ h => h
                  case hyin47 => refine Or.inl ⟨by rfl, ?_⟩; intro W hSw; (try dsimp only at hSw); go_simp; try with_reducible rfl
                  simp only [Act.put, List.setIfInBounds_toArray, List.set_cons_zero, List.set_cons_succ]
                  refine wpAnyH_take (i := 48) (oi := ?oin48) (v := ?vin48) ?hiin48 (by kernel_rfl) (by kernel_rfl) (by kernel_rfl) ?hQin48 ?hyin48 hH5 ?restin48
                  case hiin48 => simp only [List.getElem?_toArray, List.getElem?_cons_zero, List.getElem?_cons_succ]; rfl
                  case hQin48 => exact fun _ _ _ h => h
                  case hyin48 => refine Or.inl ⟨by rfl, ?_⟩; intro W hSw; (try dsimp only at hSw); go_simp; try with_reducible rfl
                  simp only [Act.put, List.setIfInBounds_toArray, List.set_cons_zero, List.set_cons_succ]
                  refine wpAnyH_take (i := 49) (oi := ?oin49) (v := ?vin49) ?hiin49 (by kernel_rfl) (by kernel_rfl) (by kernel_rfl) ?hQin49 ?hyin49 hH5 ?restin49
                  case hiin49 => simp only [List.getElem?_toArray, List.getElem?_cons_zero, List.getElem?_cons_succ]; rfl
                  case hQin49 => exact fun _ _ _ h => h
                  case hyin49 => refine Or.inl ⟨by rfl, ?_⟩; intro W hSw; (try dsimp only at hSw); go_simp; try with_reducible rfl
                  simp only [Act.put, List.setIfInBounds_toArray, List.set_cons_zero, List.set_cons_succ]
                  refine wpAnyH_take (i := 50) (oi := ?oin50) (v := ?vin50) ?hiin50 (by kernel_rfl) (by kernel_rfl) (by kernel_rfl) ?hQin50 ?hyin50 hH5 ?restin50
                  case hiin50 => simp only [List.getElem?_toArray, List.getElem?_cons_zero, List.getElem?_cons_succ]; rfl
                  case hQin50 => exact fun _ _ _ h => h
                  case hyin50 => refine Or.inl ⟨by rfl, ?_⟩; intro W hSw; (try dsimp only at hSw); go_simp; try with_reducible rfl
                  simp only [Act.put, List.setIfInBounds_toArray, List.set_cons_zero, List.set_cons_succ]
                  refine wpAnyH_take (i := 51) (oi := ?oin51) (v := ?vin51) ?hiin51 (by kernel_rfl) (by kernel_rfl) (by kernel_rfl) ?hQin51 ?hyin51 hH5 ?restin51
                  case hiin51 => simp only [List.getElem?_toArray, List.getElem?_cons_zero, List.getElem?_cons_succ]; rfl
                  case hQin51 => exact fun _ _ _ h => h
                  case hyin51 => refine Or.inl ⟨by rfl, ?_⟩; intro W hSw; (try dsimp only at hSw); go_simp; try with_reducible rfl
                  simp only [Act.put, List.setIfInBounds_toArray, List.set_cons_zero, List.set_cons_succ]
                  refine wpAnyH_take (i := 52) (oi := ?oin52) (v := ?vin52) ?hiin52 (by kernel_rfl) (by kernel_rfl) (by kernel_rfl) ?hQin52 ?hyin52 hH5 ?restin52
                  case hiin52 => simp only [List.getElem?_toArray, List.getElem?_cons_zero, List.getElem?_cons_succ]; rfl
                  case hQin52 => exact fun _ _ _ h => h
                  case hyin52 => refine Or.inl ⟨by rfl, ?_⟩; intro W hSw; (try dsimp only at hSw); go_simp; try with_reducible rfl
                  simp only [Act.put, List.setIfInBounds_toArray, List.set_cons_zero, List.set_cons_succ]
                  refine wpAnyH_take (i := 53) (oi := ?oin53) (v := ?vin53) ?hiin53 (by kernel_rfl) (by kernel_rfl) (by kernel_rfl) ?hQin53 ?hyin53 hH5 ?restin53
                  case hiin53 => simp only [List.getElem?_toArray, List.getElem?_cons_zero, List.getElem?_cons_succ]; rfl
                  case hQin53 => exact fun _ _ _ h => h
                  case hyin53 => refine Or.inl ⟨by rfl, ?_⟩; intro W hSw; (try dsimp only at hSw); go_simp; try with_reducible rfl
                  simp only [Act.put, List.setIfInBounds_toArray, List.set_cons_zero, List.set_cons_succ]
                  refine wpAnyH_take (i := 54) (oi := ?oin54) (v := undef) ?hiin54 (by kernel_rfl) (by kernel_rfl) (by kernel_rfl) ?hQin54 ?hyin54 hH5 ?restin54
                  case hiin54 => simp only [List.getElem?_toArray, List.getElem?_cons_zero, List.getElem?_cons_succ]; rfl
                  case hQin54 => exact fun _ _ _ h => h
                  case hyin54 => exact Or.inr ⟨by rfl, rfl⟩
                  simp only [Act.put, List.setIfInBounds_toArray, List.set_cons_zero, List.set_cons_succ]
                  refine wpAnyH_take (i := 55) (oi := ?oin55) (v := undef) ?hiin55 (by kernel_rfl) (by kernel_rfl) (by kernel_rfl) ?hQin55 ?hyin55 hH5 ?restin55
                  case hiin55 => simp only [List.getElem?_toArray, List.getElem?_cons_zero, List.getElem?_cons_succ]; rfl
                  case hQin55 => exact fun _ _ _ h => h
                  case hyin55 => exact Or.inr ⟨by rfl, rfl⟩
                  simp only [Act.put, List.setIfInBounds_toArray, List.set_cons_zero, List.set_cons_succ]
                  refine wpAnyH_take (i := 56) (oi := ?oin56) (v := undef) ?hiin56 (by kernel_rfl) (by kernel_rfl) (by kernel_rfl) ?hQin56 ?hyin56 hH5 ?restin56
                  case hiin56 => simp only [List.getElem?_toArray, List.getElem?_cons_zero, List.getElem?_cons_succ]; rfl
                  case hQin56 => exact fun _ _ _ h => h
                  case hyin56 => exact Or.inr ⟨by rfl, rfl⟩
                  simp only [Act.put, List.setIfInBounds_toArray, List.set_cons_zero, List.set_cons_succ]
                  refine wpAnyH_take (i := 57) (oi := ?oin57) (v := undef) ?hiin57 (by kernel_rfl) (by kernel_rfl) (by kernel_rfl) ?hQin57 ?hyin57 hH5 ?restin57
                  case hiin57 => simp only [List.getElem?_toArray, List.getElem?_cons_zero, List.getElem?_cons_succ]; rfl
                  case hQin57 => exact fun _ _ _ h => h
                  case hyin57 => exact Or.inr ⟨by rfl, rfl⟩
                  simp only [Act.put, List.setIfInBounds_toArray, List.set_cons_zero, List.set_cons_succ]
                  refine wpAnyH_take (i := 58) (oi := ?oin58) (v := undef) ?hiin58 (by kernel_rfl) (by kernel_rfl) (by kernel_rfl) ?hQin58 ?hyin58 hH5 ?restin58
                  case hiin58 => simp only [List.getElem?_toArray, List.getElem?_cons_zero, List.getElem?_cons_succ]; rfl
                  case hQin58 => exact fun _ _ _ h => h
                  case hyin58 => exact Or.inr ⟨by rfl, rfl⟩
                  simp only [Act.put, List.setIfInBounds_toArray, List.set_cons_zero, List.set_cons_succ]
                  refine wpAnyH_take (i := 59) (oi := ?oin59) (v := undef) ?hiin59 (by kernel_rfl) (by kernel_rfl) (by kernel_rfl) ?hQin59 ?hyin59 hH5 ?restin59
                  case hiin59 => simp only [List.getElem?_toArray, List.getElem?_cons_zero, List.getElem?_cons_succ]; rfl
                  case hQin59 => exact fun _ _ _ h => h
                  case hyin59 => exact Or.inr ⟨by rfl, rfl⟩
                  simp only [Act.put, List.setIfInBounds_toArray, List.set_cons_zero, List.set_cons_succ]
                  refine wpAnyH_take (i := 60) (oi := ?oin60) (v := undef) ?hiin60 (by kernel_rfl) (by kernel_rfl) (by kernel_rfl) ?hQin60 ?hyin60 hH5 ?restin60
                  case hiin60 => simp only [List.getElem?_toArray, List.getElem?_cons_zero, List.getElem?_cons_succ]; rfl
                  case hQin60 => exact fun _ _ _ h => h
                  case hyin60 => exact Or.inr ⟨by rfl, rfl⟩
                  simp only [Act.put, List.setIfInBounds_toArray, List.set_cons_zero, List.set_cons_succ]
                  refine wpAnyH_take (i := 61) (oi := ?oin61) (v := ?vin61) ?hiin61 (by kernel_rfl) (by kernel_rfl) (by kernel_rfl) ?hQin61 ?hyin61 hH5 ?restin61
                  case hiin61 => simp only [List.getElem?_toArray, List.getElem?_cons_zero, List.getElem?_cons_succ]; rfl
                  case hQin61 => exact fun _ _ _ h => h
                  case hyin61 => refine Or.inl ⟨by rfl, ?_⟩; intro W hSw; (try dsimp only at hSw); go_simp; try with_reducible rfl
                  simp only [Act.put, List.setIfInBounds_toArray, List.set_cons_zero, List.set_cons_succ]
                  refine wpAnyH_take (i := 62) (oi := ?oin62) (v := ?vin62) ?hiin62 (by kernel_rfl) (by kernel_rfl) (by kernel_rfl) ?hQin62 ?hyin62 hH5 ?restin62
                  case hiin62 => simp only [List.getElem?_toArray, List.getElem?_cons_zero, List.getElem?_cons_succ]; rfl
                  case hQin62 => exact fun _ _ _ h => h
                  case hyin62 => refine Or.inl ⟨by rfl, ?_⟩; intro W hSw; (try dsimp only at hSw); go_simp; try with_reducible rfl
                  simp only [Act.put, List.setIfInBounds_toArray, List.set_cons_zero, List.set_cons_succ]
                  refine wpAnyH_done (by kernel_rfl) ?_ _
                  have hlast := lowT.out _ hH5
                  go_wp2
                  all_goals go_meet
                  all_goals
                    case rel => exact ⟨rfl, hlast⟩
                · as_aux_lemma =>
                  have cF := Lib.hid (fun (X' : World) (hb' : Below wm.heap.size wm X') => follows_without wm.heap.size wm.heap.size _ _ V U X' (HVm.out.keep hb' (Nat.le_refl _)) (HVU.out.keep hb' (Nat.le_refl _)) hb'.size hb'.size hs hsU HR.out hUr n ho1)
                  have cP := Lib.hid (fun (X' : World) (hb' : Below wm.heap.size wm X') => place_any wm.heap.size _ U n (-1) ho2 X' (HVU.out.keep hb' (Nat.le_refl _)) hb'.size hsU)
                  clear ho1 ho2 hh mkS low keep hg6 hgb2 hbx hbx2 hvX hfX hfU hgb hg6m hg6ml hgl2 hg6l hnc hncm mkT HST HVm HVU HVV HX HR R C1 HL g1 g2 g3 hb hwr hb1 hw1 hE p1 p2 p3
                  refine region_begin (S := fun X' => X'.cell? ⟨w1.heap.size + 1 + 1 + 1, 0, none⟩ = some (.int .i64 V.epoch) ∧ X'.cell? ⟨w1.heap.size + 1 + 1 + 1, 1, none⟩ = some (.slice a1 V.chain.length k1) ∧ X'.cell? ⟨w1.heap.size + 1 + 1 + 1, 2, none⟩ = some (.slice a2 V.since.length k2) ∧ X'.cell? ⟨w1.heap.size + 1 + 1 + 1, 3, none⟩ = some (.slice a3 V.boot.length k3) ∧ X'.cell? ⟨g, 0, none⟩ = some (.int .i64 U.epoch) ∧ X'.cell? ⟨g, 1, none⟩ = some (.slice e1 U.chain.length m1) ∧ X'.cell? ⟨g, 2, none⟩ = some (.slice e2 U.since.length m2) ∧ X'.cell? ⟨g, 3, none⟩ = some (.slice e3 U.boot.length m3) ∧ X'.cell? ⟨nb, no + i, none⟩ = some (.int .i64 n) ∧ Below wm.heap.size wm X') 63 rfl (by kernel_rfl) hT0 (fun hH0 => ?_)
                  refine wpAnyH_take (i := 0) (oi := ?ono0) (v := ?vno0) ?hino0 (by kernel_rfl) (by kernel_rfl) (by kernel_rfl) ?hQno0 ?hyno0 hH0 ?restno0
                  case hino0 => simp only [List.getElem?_toArray, List.getElem?_cons_zero]; rfl
                  case hQno0 => exact fun _ _ _ h => h
                  case hyno0 => refine Or.inl ⟨by rfl, ?_⟩; intro W hSw; (try dsimp only at hSw); go_simp; try with_reducible rfl
                  simp only [Act.put, List.setIfInBounds_toArray, List.set_cons_zero, List.set_cons_succ]
                  refine wpAnyH_ready (rs := [1]) (by kernel_rfl) (by simp) ?_
                  refine AllReadyH.cons (o := ?oono1) ?hono1 (fun K' hK => ?_) AllReadyH.nil
                  case hono1 => simp only [List.getElem?_toArray, List.getElem?_cons_zero, List.getElem?_cons_succ]; rfl
                  go_simp
                  refine (cR.out _ (lowT.out _ hH0)).mono ?_
                  rintro e wz1 ⟨rfl, hbz1⟩
                  refine hK.out _ _ (keepT.out _ _ hH0 hbz1) (fun hH1 => ?_)
                  clear hK
                  refine wpAnyH_take (i := 2) (oi := ?ono2) (v := ?vno2) ?hino2 (by kernel_rfl) (by kernel_rfl) (by kernel_rfl) ?hQno2 ?hyno2 hH1 ?restno2
                  case hino2 => simp only [List.getElem?_toArray, List.getElem?_cons_zero, List.getElem?_cons_succ]; rfl
                  case hQno2 => exact fun _ _ _ h => h
                  case hyno2 => refine Or.inl ⟨by rfl, ?_⟩; intro W hSw; (try dsimp only at hSw); go_simp; try with_reducible rfl
                  simp only [Act.put, List.setIfInBounds_toArray, List.set_cons_zero, List.set_cons_succ]
                  refine wpAnyH_take (i := 3) (oi := ?ono3) (v := ?vno3) ?hino3 (by kernel_rfl) (by kernel_rfl) (by kernel_rfl) ?hQno3 ?hyno3 hH1 ?restno3
                  case hino3 => simp only [List.getElem?_toArray, List.getElem?_cons_zero, List.getElem?_cons_succ]; rfl
                  case hQno3 => exact fun _ _ _ h => h
                  case hyno3 => refine Or.inl ⟨by rfl, ?_⟩; intro W hSw; (try dsimp only at hSw); go_simp; try with_reducible rfl
                  simp only [Act.put, List.setIfInBounds_toArray, List.set_cons_zero, List.set_cons_succ]
                  refine wpAnyH_take (i := 4) (oi := ?ono4) (v := ?vno4) ?hino4 (by kernel_rfl) (by kernel_rfl) (by kernel_rfl) ?hQno4 ?hyno4 hH1 ?restno4
                  case hino4 => simp only [List.getElem?_toArray, List.getElem?_cons_zero, List.getElem?_cons_succ]; rfl
                  case hQno4 => exact fun _ _ _ h => h
                  case hyno4 => refine Or.inl ⟨by rfl, ?_⟩; intro W hSw; (try dsimp only at hSw); go_simp; try with_reducible rfl
                  simp only [Act.put, List.setIfInBounds_toArray, List.set_cons_zero, List.set_cons_succ]
                  refine wpAnyH_take (i := 5) (oi := ?ono5) (v := ?vno5) ?hino5 (by kernel_rfl) (by kernel_rfl) (by kernel_rfl) ?hQno5 ?hyno5 hH1 ?restno5
                  case hino5 => simp only [List.getElem?_toArray, List.getElem?_cons_zero, List.getElem?_cons_succ]; rfl
                  case hQno5 => exact fun _ _ _ h => h
                  case hyno5 => refine Or.inl ⟨by rfl, ?_⟩; intro W hSw; (try dsimp only at hSw); go_simp; try with_reducible rfl
                  simp only [Act.put, List.setIfInBounds_toArray, List.set_cons_zero, List.set_cons_succ]
                  refine wpAnyH_ready (rs := [6]) (by kernel_rfl) (by simp) ?_
                  refine AllReadyH.cons (o := ?oono6) ?hono6 (fun K' hK => ?_) AllReadyH.nil
                  case hono6 => simp only [List.getElem?_toArray, List.getElem?_cons_zero, List.getElem?_cons_succ]; rfl
                  go_simp
                  refine (cF.out _ (lowT.out _ hH1)).mono ?_
                  rintro e wz2 ⟨rfl, hbz2⟩
                  refine hK.out _ _ (keepT.out _ _ hH1 hbz2) (fun hH2 => ?_)
                  clear hK
                  refine wpAnyH_take (i := 7) (oi := ?ono7) (v := ?vno7) ?hino7 (by kernel_rfl) (by kernel_rfl) (by kernel_rfl) ?hQno7 ?hyno7 hH2 ?restno7
                  case hino7 => simp only [List.getElem?_toArray, List.getElem?_cons_zero, List.getElem?_cons_succ]; rfl
                  case hQno7 => exact fun _ _ _ h => h
                  case hyno7 => refine Or.inl ⟨by rfl, ?_⟩; intro W hSw; (try dsimp only at hSw); go_simp; try with_reducible rfl
                  simp only [Act.put, List.setIfInBounds_toArray, List.set_cons_zero, List.set_cons_succ]
                  refine wpAnyH_take (i := 8) (oi := ?ono8) (v := ?vno8) ?hino8 (by kernel_rfl) (by kernel_rfl) (by kernel_rfl) ?hQno8 ?hyno8 hH2 ?restno8
                  case hino8 => simp only [List.getElem?_toArray, List.getElem?_cons_zero, List.getElem?_cons_succ]; rfl
                  case hQno8 => exact fun _ _ _ h => h
                  case hyno8 => refine Or.inl ⟨by rfl, ?_⟩; intro W hSw; (try dsimp only at hSw); go_simp; try with_reducible rfl
                  simp only [Act.put, List.setIfInBounds_toArray, List.set_cons_zero, List.set_cons_succ]
                  refine wpAnyH_take (i := 9) (oi := ?ono9) (v := ?vno9) ?hino9 (by kernel_rfl) (by kernel_rfl) (by kernel_rfl) ?hQno9 ?hyno9 hH2 ?restno9
                  case hino9 => simp only [List.getElem?_toArray, List.getElem?_cons_zero, List.getElem?_cons_succ]; rfl
                  case hQno9 => exact fun _ _ _ h => h
                  case hyno9 => refine Or.inl ⟨by rfl, ?_⟩; intro W hSw; (try dsimp only at hSw); go_simp; try with_reducible rfl
                  simp only [Act.put, List.setIfInBounds_toArray, List.set_cons_zero, List.set_cons_succ]
                  refine wpAnyH_take (i := 10) (oi := ?ono10) (v := ?vno10) ?hino10 (by kernel_rfl) (by kernel_rfl) (by kernel_rfl) ?hQno10 ?hyno10 hH2 ?restno10
                  case hino10 => simp only [List.getElem?_toArray, List.getElem?_cons_zero, List.getElem?_cons_succ]; rfl
                  case hQno10 => exact fun _ _ _ h => h
                  case hyno10 => refine Or.inl ⟨by rfl, ?_⟩; intro W hSw; (try dsimp only at hSw); go_simp; try with_reducible rfl
                  simp only [Act.put, List.setIfInBounds_toArray, List.set_cons_zero, List.set_cons_succ]
                  refine wpAnyH_take (i := 11) (oi := ?ono11) (v := ?vno11) ?hino11 (by kernel_rfl) (by kernel_rfl) (by kernel_rfl) ?hQno11 ?hyno11 hH2 ?restno11
                  case hino11 => simp only [List.getElem?_toArray, List.getElem?_cons_zero, List.getElem?_cons_succ]; rfl
                  case hQno11 => exact fun _ _ _ h => h
                  case hyno11 => refine Or.inl ⟨by rfl, ?_⟩; intro W hSw; (try dsimp only at hSw); go_simp; try with_reducible rfl
                  simp only [Act.put, List.setIfInBounds_toArray, List.set_cons_zero, List.set_cons_succ]
                  refine wpAnyH_take (i := 12) (oi := ?ono12) (v := ?vno12) ?hino12 (by kernel_rfl) (by kernel_rfl) (by kernel_rfl) ?hQno12 ?hyno12 hH2 ?restno12
                  case hino12 => simp only [List.getElem?_toArray, List.getElem?_cons_zero, List.getElem?_cons_succ]; rfl
                  case hQno12 => exact fun _ _ _ h => h
                  case hyno12 => refine Or.inl ⟨by rfl, ?_⟩; intro W hSw; (try dsimp only at hSw); go_simp; try with_reducible rfl
                  simp only [Act.put, List.setIfInBounds_toArray, List.set_cons_zero, List.set_cons_succ]
                  refine wpAnyH_take (i := 13) (oi := ?ono13) (v := ?vno13) ?hino13 (by kernel_rfl) (by kernel_rfl) (by kernel_rfl) ?hQno13 ?hyno13 hH2 ?restno13
                  case hino13 => simp only [List.getElem?_toArray, List.getElem?_cons_zero, List.getElem?_cons_succ]; rfl
                  case hQno13 => exact fun _ _ _ h => h
                  case hyno13 => refine Or.inl ⟨by rfl, ?_⟩; intro W hSw; (try dsimp only at hSw); go_simp; try with_reducible rfl
                  simp only [Act.put, List.setIfInBounds_toArray, List.set_cons_zero, List.set_cons_succ]
                  refine wpAnyH_take (i := 14) (oi := ?ono14) (v := ?vno14) ?hino14 (by kernel_rfl) (by kernel_rfl) (by kernel_rfl) ?hQno14 ?hyno14 hH2 ?restno14
                  case hino14 => simp only [List.getElem?_toArray, List.getElem?_cons_zero, List.getElem?_cons_succ]; rfl
                  case hQno14 => exact fun _ _ _ h => h
                  case hyno14 => refine Or.inl ⟨by rfl, ?_⟩; intro W hSw; (try dsimp only at hSw); go_simp; try with_reducible rfl
                  simp only [Act.put, List.setIfInBounds_toArray, List.set_cons_zero, List.set_cons_succ]
                  refine wpAnyH_take (i := 15) (oi := ?ono15) (v := ?vno15) ?hino15 (by kernel_rfl) (by kernel_rfl) (by kernel_rfl) ?hQno15 ?hyno15 hH2 ?restno15
                  case hino15 => simp only [List.getElem?_toArray, List.getElem?_cons_zero, List.getElem?_cons_succ]; rfl
                  case hQno15 => exact fun _ _ _ h => h
                  case hyno15 => refine Or.inl ⟨by rfl, ?_⟩; intro W hSw; (try dsimp only at hSw); go_simp; try with_reducible rfl
                  simp only [Act.put, List.setIfInBounds_toArray, List.set_cons_zero, List.set_cons_succ]
                  refine wpAnyH_take (i := 16) (oi := ?ono16) (v := ?vno16) ?hino16 (by kernel_rfl) (by kernel_rfl) (by kernel_rfl) ?hQno16 ?hyno16 hH2 ?restno16
                  case hino16 => simp only [List.getElem?_toArray, List.getElem?_cons_zero, List.getElem?_cons_succ]; rfl
                  case hQno16 => exact fun _ _ _ h => h
                  case hyno16 => refine Or.inl ⟨by rfl, ?_⟩; intro W hSw; (try dsimp only at hSw); go_simp; try with_reducible rfl
                  simp only [Act.put, List.setIfInBounds_toArray, List.set_cons_zero, List.set_cons_succ]
                  refine wpAnyH_take (i := 17) (oi := ?ono17) (v := ?vno17) ?hino17 (by kernel_rfl) (by kernel_rfl) (by kernel_rfl) ?hQno17 ?hyno17 hH2 ?restno17
                  case hino17 => simp only [List.getElem?_toArray, List.getElem?_cons_zero, List.getElem?_cons_succ]; rfl
                  case hQno17 => exact fun _ _ _ h => h
                  case hyno17 => refine Or.inl ⟨by rfl, ?_⟩; intro W hSw; (try dsimp only at hSw); go_simp; try with_reducible rfl
                  simp only [Act.put, List.setIfInBounds_toArray, List.set_cons_zero, List.set_cons_succ]
                  refine wpAnyH_take (i := 18) (oi := ?ono18) (v := ?vno18) ?hino18 (by kernel_rfl) (by kernel_rfl) (by kernel_rfl) ?hQno18 ?hyno18 hH2 ?restno18
                  case hino18 => simp only [List.getElem?_toArray, List.getElem?_cons_zero, List.getElem?_cons_succ]; rfl
                  case hQno18 => exact fun _ _ _ h => h
                  case hyno18 => refine Or.inl ⟨by rfl, ?_⟩; intro W hSw; (try dsimp only at hSw); go_simp; try with_reducible rfl
                  simp only [Act.put, List.setIfInBounds_toArray, List.set_cons_zero, List.set_cons_succ]
                  refine wpAnyH_take (i := 19) (oi := ?ono19) (v := ?vno19) ?hino19 (by kernel_rfl) (by kernel_rfl) (by kernel_rfl) ?hQno19 ?hyno19 hH2 ?restno19
                  case hino19 => simp only [List.getElem?_toArray, List.getElem?_cons_zero, List.getElem?_cons_succ]; rfl
                  case hQno19 => exact fun _ _ _ h => h
                  case hyno19 => refine Or.inl ⟨by rfl, ?_⟩; intro W hSw; (try dsimp only at hSw); go_simp; try with_reducible rfl
                  simp only [Act.put, List.setIfInBounds_toArray, List.set_cons_zero, List.set_cons_succ]
                  refine wpAnyH_take (i := 20) (oi := ?ono20) (v := undef) ?hino20 (by kernel_rfl) (by kernel_rfl) (by kernel_rfl) ?hQno20 ?hyno20 hH2 ?restno20
                  case hino20 => simp only [List.getElem?_toArray, List.getElem?_cons_zero, List.getElem?_cons_succ]; rfl
                  case hQno20 => exact fun _ _ _ h => h
                  case hyno20 => exact Or.inr ⟨by rfl, rfl⟩
                  simp only [Act.put, List.setIfInBounds_toArray, List.set_cons_zero, List.set_cons_succ]
                  refine wpAnyH_take (i := 21) (oi := ?ono21) (v := undef) ?hino21 (by kernel_rfl) (by kernel_rfl) (by kernel_rfl) ?hQno21 ?hyno21 hH2 ?restno21
                  case hino21 => simp only [List.getElem?_toArray, List.getElem?_cons_zero, List.getElem?_cons_succ]; rfl
                  case hQno21 => exact fun _ _ _ h => h
                  case hyno21 => exact Or.inr ⟨by rfl, rfl⟩
                  simp only [Act.put, List.setIfInBounds_toArray, List.set_cons_zero, List.set_cons_succ]
                  refine wpAnyH_take (i := 22) (oi := ?ono22) (v := undef) ?hino22 (by kernel_rfl) (by kernel_rfl) (by kernel_rfl) ?hQno22 ?hyno22 hH2 ?restno22
                  case hino22 => simp only [List.getElem?_toArray, List.getElem?_cons_zero, List.getElem?_cons_succ]; rfl
                  case hQno22 => exact fun _ _ _ h => h
                  case hyno22 => exact Or.inr ⟨by rfl, rfl⟩
                  simp only [Act.put, List.setIfInBounds_toArray, List.set_cons_zero, List.set_cons_succ]
                  refine wpAnyH_take (i := 23) (oi := ?ono23) (v := undef) ?hino23 (by kernel_rfl) (by kernel_rfl) (by kernel_rfl) ?hQno23 ?hyno23 hH2 ?restno23
                  case hino23 => simp only [List.getElem?_toArray, List.getElem?_cons_zero, List.getElem?_cons_succ]; rfl
                  case hQno23 => exact fun _ _ _ h => h
                  case hyno23 => exact Or.inr ⟨by rfl, rfl⟩
                  simp only [Act.put, List.setIfInBounds_toArray, List.set_cons_zero, List.set_cons_succ]
                  refine wpAnyH_take (i := 24) (oi := ?ono24) (v := undef) ?hino24 (by kernel_rfl) (by kernel_rfl) (by kernel_rfl) ?hQno24 ?hyno24 hH2 ?restno24
                  case hino24 => simp only [List.getElem?_toArray, List.getElem?_cons_zero, List.getElem?_cons_succ]; rfl
                  case hQno24 => exact fun _ _ _ h => h
                  case hyno24 => exact Or.inr ⟨by rfl, rfl⟩
                  simp only [Act.put, List.setIfInBounds_toArray, List.set_cons_zero, List.set_cons_succ]
                  refine wpAnyH_take (i := 25) (oi := ?ono25) (v := undef) ?hino25 (by kernel_rfl) (by kernel_rfl) (by kernel_rfl) ?hQno25 ?hyno25 hH2 ?restno25
                  case hino25 => simp only [List.getElem?_toArray, List.getElem?_cons_zero, List.getElem?_cons_succ]; rfl
                  case hQno25 => exact fun _ _ _ h => h
                  case hyno25 => exact Or.inr ⟨by rfl, rfl⟩
                  simp only [Act.put, List.setIfInBounds_toArray, List.set_cons_zero, List.set_cons_succ]
                  refine wpAnyH_take (i := 26) (oi := ?ono26) (v := undef) ?hino26 (by kernel_rfl) (by kernel_rfl) (by kernel_rfl) ?hQno26 ?hyno26 hH2 ?restno26
                  case hino26 => simp only [List.getElem?_toArray, List.getElem?_cons_zero, List.getElem?_cons_succ]; rfl
                  case hQno26 => exact fun _ _ _ h => h
                  case hyno26 => exact Or.inr ⟨by rfl, rfl⟩
                  simp only [Act.put, List.setIfInBounds_toArray, List.set_cons_zero, List.set_cons_succ]
                  refine wpAnyH_take (i := 27) (oi := ?ono27) (v := undef) ?hino27 (by kernel_rfl) (by kernel_rfl) (by kernel_rfl) ?hQno27 ?hyno27 hH2 ?restno27
                  case hino27 => simp only [List.getElem?_toArray, List.getElem?_cons_zero, List.getElem?_cons_succ]; rfl
                  case hQno27 => exact fun _ _ _ h => h
                  case hyno27 => exact Or.inr ⟨by rfl, rfl⟩
                  simp only [Act.put, List.setIfInBounds_toArray, List.set_cons_zero, List.set_cons_succ]
                  refine wpAnyH_take (i := 28) (oi := ?ono28) (v := undef) ?hino28 (by kernel_rfl) (by kernel_rfl) (by kernel_rfl) ?hQno28 ?hyno28 hH2 ?restno28
                  case hino28 => simp only [List.getElem?_toArray, List.getElem?_cons_zero, List.getElem?_cons_succ]; rfl
                  case hQno28 => exact fun _ _ _ h => h
                  case hyno28 => exact Or.inr ⟨by rfl, rfl⟩
                  simp only [Act.put, List.setIfInBounds_toArray, List.set_cons_zero, List.set_cons_succ]
                  refine wpAnyH_take (i := 29) (oi := ?ono29) (v := undef) ?hino29 (by kernel_rfl) (by kernel_rfl) (by kernel_rfl) ?hQno29 ?hyno29 hH2 ?restno29
                  case hino29 => simp only [List.getElem?_toArray, List.getElem?_cons_zero, List.getElem?_cons_succ]; rfl
                  case hQno29 => exact fun _ _ _ h => h
                  case hyno29 => exact Or.inr ⟨by rfl, rfl⟩
                  simp only [Act.put, List.setIfInBounds_toArray, List.set_cons_zero, List.set_cons_succ]
                  refine wpAnyH_take (i := 30) (oi := ?ono30) (v := undef) ?hino30 (by kernel_rfl) (by kernel_rfl) (by kernel_rfl) ?hQno30 ?hyno30 hH2 ?restno30
                  case hino30 => simp only [List.getElem?_toArray, List.getElem?_cons_zero, List.getElem?_cons_succ]; rfl
                  case hQno30 => exact fun _ _ _ h => h
                  case hyno30 => exact Or.inr ⟨by rfl, rfl⟩
                  simp only [Act.put, List.setIfInBounds_toArray, List.set_cons_zero, List.set_cons_succ]
                  refine wpAnyH_take (i := 31) (oi := ?ono31) (v := undef) ?hino31 (by kernel_rfl) (by kernel_rfl) (by kernel_rfl) ?hQno31 ?hyno31 hH2 ?restno31
                  case hino31 => simp only [List.getElem?_toArray, List.getElem?_cons_zero, List.getElem?_cons_succ]; rfl
                  case hQno31 => exact fun _ _ _ h => h
                  case hyno31 => exact Or.inr ⟨by rfl, rfl⟩
                  simp only [Act.put, List.setIfInBounds_toArray, List.set_cons_zero, List.set_cons_succ]
                  refine wpAnyH_take (i := 32) (oi := ?ono32) (v := undef) ?hino32 (by kernel_rfl) (by kernel_rfl) (by kernel_rfl) ?hQno32 ?hyno32 hH2 ?restno32
                  case hino32 => simp only [List.getElem?_toArray, List.getElem?_cons_zero, List.getElem?_cons_succ]; rfl
                  case hQno32 => exact fun _ _ _ h => h
                  case hyno32 => exact Or.inr ⟨by rfl, rfl⟩
                  simp only [Act.put, List.setIfInBounds_toArray, List.set_cons_zero, List.set_cons_succ]
                  refine wpAnyH_take (i := 33) (oi := ?ono33) (v := undef) ?hino33 (by kernel_rfl) (by kernel_rfl) (by kernel_rfl) ?hQno33 ?hyno33 hH2 ?restno33
                  case hino33 => simp only [List.getElem?_toArray, List.getElem?_cons_zero, List.getElem?_cons_succ]; rfl
                  case hQno33 => exact fun _ _ _ h => h
                  case hyno33 => exact Or.inr ⟨by rfl, rfl⟩
                  simp only [Act.put, List.setIfInBounds_toArray, List.set_cons_zero, List.set_cons_succ]
                  refine wpAnyH_take (i := 34) (oi := ?ono34) (v := undef) ?hino34 (by kernel_rfl) (by kernel_rfl) (by kernel_rfl) ?hQno34 ?hyno34 hH2 ?restno34
                  case hino34 => simp only [List.getElem?_toArray, List.getElem?_cons_zero, List.getElem?_cons_succ]; rfl
                  case hQno34 => exact fun _ _ _ h => h
                  case hyno34 => exact Or.inr ⟨by rfl, rfl⟩
                  simp only [Act.put, List.setIfInBounds_toArray, List.set_cons_zero, List.set_cons_succ]
                  refine wpAnyH_take (i := 35) (oi := ?ono35) (v := undef) ?hino35 (by kernel_rfl) (by kernel_rfl) (by kernel_rfl) ?hQno35 ?hyno35 hH2 ?restno35
                  case hino35 => simp only [List.getElem?_toArray, List.getElem?_cons_zero, List.getElem?_cons_succ]; rfl
                  case hQno35 => exact fun _ _ _ h => h
                  case hyno35 => exact Or.inr ⟨by rfl, rfl⟩
                  simp only [Act.put, List.setIfInBounds_toArray, List.set_cons_zero, List.set_cons_succ]
                  refine wpAnyH_take (i := 36) (oi := ?ono36) (v := undef) ?hino36 (by kernel_rfl) (by kernel_rfl) (by kernel_rfl) ?hQno36 ?hyno36 hH2 ?restno36
                  case hino36 => simp only [List.getElem?_toArray, List.getElem?_cons_zero, List.getElem?_cons_succ]; rfl
                  case hQno36 => exact fun _ _ _ h => h
                  case hyno36 => exact Or.inr ⟨by rfl, rfl⟩
                  simp only [Act.put, List.setIfInBounds_toArray, List.set_cons_zero, List.set_cons_succ]
                  refine wpAnyH_take (i := 37) (oi := ?ono37) (v := undef) ?hino37 (by kernel_rfl) (by kernel_rfl) (by kernel_rfl) ?hQno37 ?hyno37 hH2 ?restno37
                  case hino37 => simp only [List.getElem?_toArray, List.getElem?_cons_zero, List.getElem?_cons_succ]; rfl
                  case hQno37 => exact fun _ _ _ h => h
                  case hyno37 => exact Or.inr ⟨by rfl, rfl⟩
                  simp only [Act.put, List.setIfInBounds_toArray, List.set_cons_zero, List.set_cons_succ]
                  refine wpAnyH_take (i := 38) (oi := ?ono38) (v := undef) ?hino38 (by kernel_rfl) (by kernel_rfl) (by kernel_rfl) ?hQno38 ?hyno38 hH2 ?restno38
                  case hino38 => simp only [List.getElem?_toArray, List.getElem?_cons_zero, List.getElem?_cons_succ]; rfl
                  case hQno38 => exact fun _ _ _ h => h
                  case hyno38 => exact Or.inr ⟨by rfl, rfl⟩
                  simp only [Act.put, List.setIfInBounds_toArray, List.set_cons_zero, List.set_cons_succ]
                  refine wpAnyH_take (i := 39) (oi := ?ono39) (v := undef) ?hino39 (by kernel_rfl) (by kernel_rfl) (by kernel_rfl) ?hQno39 ?hyno39 hH2 ?restno39
                  case hino39 => simp only [List.getElem?_toArray, List.getElem?_cons_zero, List.getElem?_cons_succ]; rfl
                  case hQno39 => exact fun _ _ _ h => h
                  case hyno39 => exact Or.inr ⟨by rfl, rfl⟩
                  simp only [Act.put, List.setIfInBounds_toArray, List.set_cons_zero, List.set_cons_succ]
                  refine wpAnyH_take (i := 40) (oi := ?ono40) (v := undef) ?hino40 (by kernel_rfl) (by kernel_rfl) (by kernel_rfl) ?hQno40 ?hyno40 hH2 ?restno40
                  case hino40 => simp only [List.getElem?_toArray, List.getElem?_cons_zero, List.getElem?_cons_succ]; rfl
                  case hQno40 => exact fun _ _ _ h => h
                  case hyno40 => exact Or.inr ⟨by rfl, rfl⟩
                  simp only [Act.put, List.setIfInBounds_toArray, List.set_cons_zero, List.set_cons_succ]
                  refine wpAnyH_take (i := 41) (oi := ?ono41) (v := undef) ?hino41 (by kernel_rfl) (by kernel_rfl) (by kernel_rfl) ?hQno41 ?hyno41 hH2 ?restno41
                  case hino41 => simp only [List.getElem?_toArray, List.getElem?_cons_zero, List.getElem?_cons_succ]; rfl
                  case hQno41 => exact fun _ _ _ h => h
                  case hyno41 => exact Or.inr ⟨by rfl, rfl⟩
                  simp only [Act.put, List.setIfInBounds_toArray, List.set_cons_zero, List.set_cons_succ]
                  refine wpAnyH_take (i := 42) (oi := ?ono42) (v := undef) ?hino42 (by kernel_rfl) (by kernel_rfl) (by kernel_rfl) ?hQno42 ?hyno42 hH2 ?restno42
                  case hino42 => simp only [List.getElem?_toArray, List.getElem?_cons_zero, List.getElem?_cons_succ]; rfl
                  case hQno42 => exact fun _ _ _ h => h
                  case hyno42 => exact Or.inr ⟨by rfl, rfl⟩
                  simp only [Act.put, List.setIfInBounds_toArray, List.set_cons_zero, List.set_cons_succ]
                  refine wpAnyH_take (i := 43) (oi := ?ono43) (v := undef) ?hino43 (by kernel_rfl) (by kernel_rfl) (by kernel_rfl) ?hQno43 ?hyno43 hH2 ?restno43
                  case hino43 => simp only [List.getElem?_toArray, List.getElem?_cons_zero, List.getElem?_cons_succ]; rfl
                  case hQno43 => exact fun _ _ _ h => h
                  case hyno43 => exact Or.inr ⟨by rfl, rfl⟩
                  simp only [Act.put, List.setIfInBounds_toArray, List.set_cons_zero, List.set_cons_succ]
                  refine wpAnyH_take (i := 44) (oi := ?ono44) (v := undef) ?hino44 (by kernel_rfl) (by kernel_rfl) (by kernel_rfl) ?hQno44 ?hyno44 hH2 ?restno44
                  case hino44 => simp only [List.getElem?_toArray, List.getElem?_cons_zero, List.getElem?_cons_succ]; rfl
                  case hQno44 => exact fun _ _ _ h => h
                  case hyno44 => exact Or.inr ⟨by rfl, rfl⟩
                  simp only [Act.put, List.setIfInBounds_toArray, List.set_cons_zero, List.set_cons_succ]
                  refine wpAnyH_take (i := 45) (oi := ?ono45) (v := undef) ?hino45 (by kernel_rfl) (by kernel_rfl) (by kernel_rfl) ?hQno45 ?hyno45 hH2 ?restno45
                  case hino45 => simp only [List.getElem?_toArray, List.getElem?_cons_zero, List.getElem?_cons_succ]; rfl
                  case hQno45 => exact fun _ _ _ h => h
                  case hyno45 => exact Or.inr ⟨by rfl, rfl⟩
                  simp only [Act.put, List.setIfInBounds_toArray, List.set_cons_zero, List.set_cons_succ]
                  refine wpAnyH_take (i := 46) (oi := ?ono46) (v := undef) ?hino46 (by kernel_rfl) (by kernel_rfl) (by kernel_rfl) ?hQno46 ?hyno46 hH2 ?restno46
                  case hino46 => simp only [List.getElem?_toArray, List.getElem?_cons_zero, List.getElem?_cons_succ]; rfl
                  case hQno46 => exact fun _ _ _ h => h
                  case hyno46 => exact Or.inr ⟨by rfl, rfl⟩
                  simp only [Act.put, List.setIfInBounds_toArray, List.set_cons_zero, List.set_cons_succ]
                  refine wpAnyH_take (i := 47) (oi := ?ono47) (v := undef) ?hino47 (by kernel_rfl) (by kernel_rfl) (by kernel_rfl) ?hQno47 ?hyno47 hH2 ?restno47
                  case hino47 => simp only [List.getElem?_toArray, List.getElem?_cons_zero, List.getElem?_cons_succ]; rfl
                  case hQno47 => exact fun _ _ _ h => h
                  case hyno47 => exact Or.inr ⟨by rfl, rfl⟩
                  simp only [Act.put, List.setIfInBounds_toArray, List.set_cons_zero, List.set_cons_succ]
                  refine wpAnyH_take (i := 48) (oi := ?ono48) (v := ?vno48) ?hino48 (by kernel_rfl) (by kernel_rfl) (by kernel_rfl) ?hQno48 ?hyno48 hH2 ?restno48
                  case hino48 => simp only [List.getElem?_toArray, List.getElem?_cons_zero, List.getElem?_cons_succ]; rfl
                  case hQno48 => exact fun _ _ _ h => h
                  case hyno48 => refine Or.inl ⟨by rfl, ?_⟩; intro W hSw; (try dsimp only at hSw); go_simp; try with_reducible rfl
                  simp only [Act.put, List.setIfInBounds_toArray, List.set_cons_zero, List.set_cons_succ]
                  refine wpAnyH_take (i := 49) (oi := ?ono49) (v := ?vno49) ?hino49 (by kernel_rfl) (by kernel_rfl) (by kernel_rfl) ?hQno49 ?hyno49 hH2 ?restno49
                  case hino49 => simp only [List.getElem?_toArray, List.getElem?_cons_zero, List.getElem?_cons_succ]; rfl
                  case hQno49 => exact fun _ _ _ h => h
                  case hyno49 => refine Or.inl ⟨by rfl, ?_⟩; intro W hSw; (try dsimp only at hSw); go_simp; try with_reducible rfl
                  simp only [Act.put, List.setIfInBounds_toArray, List.set_cons_zero, List.set_cons_succ]
                  refine wpAnyH_take (i := 50) (oi := ?ono50) (v := ?vno50) ?hino50 (by kernel_rfl) (by kernel_rfl) (by kernel_rfl) ?hQno50 ?hyno50 hH2 ?restno50
                  case hino50 => simp only [List.getElem?_toArray, List.getElem?_cons_zero, List.getElem?_cons_succ]; rfl
                  case hQno50 => exact fun _ _ _ h => h
                  case hyno50 => refine Or.inl ⟨by rfl, ?_⟩; intro W hSw; (try dsimp only at hSw); go_simp; try with_reducible rfl
                  simp only [Act.put, List.setIfInBounds_toArray, List.set_cons_zero, List.set_cons_succ]
                  refine wpAnyH_take (i := 51) (oi := ?ono51) (v := ?vno51) ?hino51 (by kernel_rfl) (by kernel_rfl) (by kernel_rfl) ?hQno51 ?hyno51 hH2 ?restno51
                  case hino51 => simp only [List.getElem?_toArray, List.getElem?_cons_zero, List.getElem?_cons_succ]; rfl
                  case hQno51 => exact fun _ _ _ h => h
                  case hyno51 => refine Or.inl ⟨by rfl, ?_⟩; intro W hSw; (try dsimp only at hSw); go_simp; try with_reducible rfl
                  simp only [Act.put, List.setIfInBounds_toArray, List.set_cons_zero, List.set_cons_succ]
                  refine wpAnyH_take (i := 52) (oi := ?ono52) (v := ?vno52) ?hino52 (by kernel_rfl) (by kernel_rfl) (by kernel_rfl) ?hQno52 ?hyno52 hH2 ?restno52
                  case hino52 => simp only [List.getElem?_toArray, List.getElem?_cons_zero, List.getElem?_cons_succ]; rfl
                  case hQno52 => exact fun _ _ _ h => h
                  case hyno52 => refine Or.inl ⟨by rfl, ?_⟩; intro W hSw; (try dsimp only at hSw); go_simp; try with_reducible rfl
                  simp only [Act.put, List.setIfInBounds_toArray, List.set_cons_zero, List.set_cons_succ]
                  refine wpAnyH_take (i := 53) (oi := ?ono53) (v := ?vno53) ?hino53 (by kernel_rfl) (by kernel_rfl) (by kernel_rfl) ?hQno53 ?hyno53 hH2 ?restno53
                  case hino53 => simp only [List.getElem?_toArray, List.getElem?_cons_zero, List.getElem?_cons_succ]; rfl
                  case hQno53 => exact fun _ _ _ h => h
                  case hyno53 => refine Or.inl ⟨by rfl, ?_⟩; intro W hSw; (try dsimp only at hSw); go_simp; try with_reducible rfl
                  simp only [Act.put, List.setIfInBounds_toArray, List.set_cons_zero, List.set_cons_succ]
                  refine wpAnyH_take (i := 54) (oi := ?ono54) (v := ?vno54) ?hino54 (by kernel_rfl) (by kernel_rfl) (by kernel_rfl) ?hQno54 ?hyno54 hH2 ?restno54
                  case hino54 => simp only [List.getElem?_toArray, List.getElem?_cons_zero, List.getElem?_cons_succ]; rfl
                  case hQno54 => exact fun _ _ _ h => h
                  case hyno54 => refine Or.inl ⟨by rfl, ?_⟩; intro W hSw; (try dsimp only at hSw); go_simp; try with_reducible rfl
                  simp only [Act.put, List.setIfInBounds_toArray, List.set_cons_zero, List.set_cons_succ]
                  refine wpAnyH_take (i := 55) (oi := ?ono55) (v := ?vno55) ?hino55 (by kernel_rfl) (by kernel_rfl) (by kernel_rfl) ?hQno55 ?hyno55 hH2 ?restno55
                  case hino55 => simp only [List.getElem?_toArray, List.getElem?_cons_zero, List.getElem?_cons_succ]; rfl
                  case hQno55 => exact fun _ _ _ h => h
                  case hyno55 => refine Or.inl ⟨by rfl, ?_⟩; intro W hSw; (try dsimp only at hSw); go_simp; try with_reducible rfl
                  simp only [Act.put, List.setIfInBounds_toArray, List.set_cons_zero, List.set_cons_succ]
                  refine wpAnyH_take (i := 56) (oi := ?ono56) (v := ?vno56) ?hino56 (by kernel_rfl) (by kernel_rfl) (by kernel_rfl) ?hQno56 ?hyno56 hH2 ?restno56
                  case hino56 => simp only [List.getElem?_toArray, List.getElem?_cons_zero, List.getElem?_cons_succ]; rfl
                  case hQno56 => exact fun _ _ _ h => h
                  case hyno56 => refine Or.inl ⟨by rfl, ?_⟩; intro W hSw; (try dsimp only at hSw); go_simp; try with_reducible rfl
                  simp only [Act.put, List.setIfInBounds_toArray, List.set_cons_zero, List.set_cons_succ]
                  refine wpAnyH_take (i := 57) (oi := ?ono57) (v := ?vno57) ?hino57 (by kernel_rfl) (by kernel_rfl) (by kernel_rfl) ?hQno57 ?hyno57 hH2 ?restno57
                  case hino57 => simp only [List.getElem?_toArray, List.getElem?_cons_zero, List.getElem?_cons_succ]; rfl
                  case hQno57 => exact fun _ _ _ h => h
                  case hyno57 => refine Or.inl ⟨by rfl, ?_⟩; intro W hSw; (try dsimp only at hSw); go_simp; try with_reducible rfl
                  simp only [Act.put, List.setIfInBounds_toArray, List.set_cons_zero, List.set_cons_succ]
                  refine wpAnyH_take (i := 58) (oi := ?ono58) (v := ?vno58) ?hino58 (by kernel_rfl) (by kernel_rfl) (by kernel_rfl) ?hQno58 ?hyno58 hH2 ?restno58
                  case hino58 => simp only [List.getElem?_toArray, List.getElem?_cons_zero, List.getElem?_cons_succ]; rfl
                  case hQno58 => exact fun _ _ _ h => h
                  case hyno58 => refine Or.inl ⟨by rfl, ?_⟩; intro W hSw; (try dsimp only at hSw); go_simp; try with_reducible rfl
                  simp only [Act.put, List.setIfInBounds_toArray, List.set_cons_zero, List.set_cons_succ]
                  refine wpAnyH_ready (rs := [59]) (by kernel_rfl) (by simp) ?_
                  refine AllReadyH.cons (o := ?oono59) ?hono59 (fun K' hK => ?_) AllReadyH.nil
                  case hono59 => simp only [List.getElem?_toArray, List.getElem?_cons_zero, List.getElem?_cons_succ]; rfl
                  go_simp
                  refine (cP.out _ (lowT.out _ hH2)).mono ?_
                  rintro e wz3 ⟨rfl, hbz3⟩
                  refine hK.out _ _ (keepT.out _ _ hH2 hbz3) (fun hH3 => ?_)
                  clear hK
                  refine wpAnyH_take (i := 60) (oi := ?ono60) (v := ?vno60) ?hino60 (by kernel_rfl) (by kernel_rfl) (by kernel_rfl) ?hQno60 ?hyno60 hH3 ?restno60
                  case hino60 => simp only [List.getElem?_toArray, List.getElem?_cons_zero, List.getElem?_cons_succ]; rfl
                  case hQno60 => exact fun _ _ _ h => h
                  case hyno60 => refine Or.inl ⟨by rfl, ?_⟩; intro W hSw; (try dsimp only at hSw); go_simp; try with_reducible rfl
                  simp only [Act.put, List.setIfInBounds_toArray, List.set_cons_zero, List.set_cons_succ]
                  refine wpAnyH_take (i := 61) (oi := ?ono61) (v := ?vno61) ?hino61 (by kernel_rfl) (by kernel_rfl) (by kernel_rfl) ?hQno61 ?hyno61 hH3 ?restno61
                  case hino61 => simp only [List.getElem?_toArray, List.getElem?_cons_zero, List.getElem?_cons_succ]; rfl
                  case hQno61 => exact fun _ _ _ h => h
                  case hyno61 => refine Or.inl ⟨by rfl, ?_⟩; intro W hSw; (try dsimp only at hSw); go_simp; try with_reducible rfl
                  simp only [Act.put, List.setIfInBounds_toArray, List.set_cons_zero, List.set_cons_succ]
                  refine wpAnyH_take (i := 62) (oi := ?ono62) (v := ?vno62) ?hino62 (by kernel_rfl) (by kernel_rfl) (by kernel_rfl) ?hQno62 ?hyno62 hH3 ?restno62
                  case hino62 => simp only [List.getElem?_toArray, List.getElem?_cons_zero, List.getElem?_cons_succ]; rfl
                  case hQno62 => exact fun _ _ _ h => h
                  case hyno62 => refine Or.inl ⟨by rfl, ?_⟩; intro W hSw; (try dsimp only at hSw); go_simp; try with_reducible rfl
                  simp only [Act.put, List.setIfInBounds_toArray, List.set_cons_zero, List.set_cons_succ]
                  refine wpAnyH_done (by kernel_rfl) ?_ _
                  have hlast := lowT.out _ hH3
                  go_wp2
                  all_goals go_meet
                  all_goals
                    case rel => exact ⟨rfl, hlast⟩
              case rest =>
                obtain ⟨rfl, hbx3⟩ := hcut
                have hgb3 := (hbx3.block g hgl2).trans hgb2
                obtain ⟨_, w1', w2', w3', we, H1', H2', H3'⟩ := hVm0
                injection we with we
                simp only [Array.mk.injEq, List.cons.injEq, and_true, true_and] at we
                obtain ⟨rfl, rfl, rfl⟩ := we
                have H1 := Lib.hid H1'
                have H2 := Lib.hid H2'
                have H3 := Lib.hid H3'
                clear H1' H2' H3'
                have hn6 : V.chain.length ≤ 6 := HR.out.n2
                have hls : V.since.length = V.chain.length := HR.out.s
                have hlb : V.boot.length = V.chain.length := HR.out.b
                have HLS := Lib.hid hls
                have HLB := Lib.hid hlb
                clear hls hlb
                have hq0 := HST.out.q0
                have cPl := Lib.hid (fun (y p : Int) (hp : placeV U y = p) (X' : World) (hb' : Below wm.heap.size wm X') => place_any wm.heap.size _ U y p hp X' (HVU.out.keep hb' (Nat.le_refl _)) hb'.size hsU)
                have cSl := Lib.hid (fun (y p : Int) (hp : sinceV U y = p) (X' : World) (hb' : Below wm.heap.size wm X') => since_any wm.heap.size _ U y p hp X' (HVU.out.keep hb' (Nat.le_refl _)) hb'.size hsU)
                have cBl := Lib.hid (fun (y p : Int) (hp : bootV U y = p) (X' : World) (hb' : Below wm.heap.size wm X') => boot_any wm.heap.size _ U y p hp X' (HVU.out.keep hb' (Nat.le_refl _)) hb'.size hsU)
                clear hh mkS low keep gw gE cR R C1 HX keepT lowT
                go_wp2_with fail
                go_loopw [4, 11, 12] (fun _ t11 t12 wl => ∃ k : Nat, k ≤ V.chain.length ∧ t12 = .int .i64 k ∧ ∃ last : Int, t11 = .int .i64 last ∧ last ≤ Q k ∧ Below wm.heap.size wm wl) (fun _ _ t12 _ => V.chain.length - (intOf t12).toNat)
                case atStart => exact ⟨0, Nat.zero_le _, rfl, -1, rfl, hq0, hbx3⟩
                case round => as_aux_lemma =>
                  obtain ⟨k, hk, rfl, last, rfl, hlast, hbl⟩ := hrel
                  obtain ⟨y0, y1, y2, y3, z0, z1, z2, z3, n0, _⟩ := mkT.out wr hbl
                  by_cases hkl : k < V.chain.length
                  · have hks : k < V.since.length := by have := HLS.out; omega
                    have hkb : k < V.boot.length := by have := HLB.out; omega
                    obtain ⟨r1, s1, q1, he, _, _, hc1⟩ := (H1.out).get k hkl
                    obtain ⟨rfl, -, rfl⟩ : a1 = some ⟨r1, s1, none⟩ ∧ V.chain.length = V.chain.length ∧ k1 = q1 := by injection he with e1 e2 e3; exact ⟨e1, e2, e3⟩
                    clear he
                    obtain ⟨r2, s2, q2, he, _, _, hc2⟩ := (H2.out).get k hks
                    obtain ⟨rfl, -, rfl⟩ : a2 = some ⟨r2, s2, none⟩ ∧ V.since.length = V.since.length ∧ k2 = q2 := by injection he with e1 e2 e3; exact ⟨e1, e2, e3⟩
                    clear he
                    obtain ⟨r3, s3, q3, he, _, _, hc3⟩ := (H3.out).get k hkb
                    obtain ⟨rfl, -, rfl⟩ : a3 = some ⟨r3, s3, none⟩ ∧ V.boot.length = V.boot.length ∧ k3 = q3 := by injection he with e1 e2 e3; exact ⟨e1, e2, e3⟩
                    clear he
                    obtain ⟨y, hy⟩ : ∃ y, V.chain[k] = y := ⟨_, rfl⟩
                    obtain ⟨ys, hys⟩ : ∃ y, V.since[k] = y := ⟨_, rfl⟩
                    obtain ⟨yb, hyb⟩ : ∃ y, V.boot[k] = y := ⟨_, rfl⟩
                    have hat := HST.out.at_ k hkl
                    rw [hy, getD_lt hks, getD_lt hkb, hys, hyb] at hat
                    rw [hy] at hc1
                    rw [hys] at hc2
                    rw [hyb] at hc3
                    clear hy hys hyb
                    have j1 : (0 : Int) ≤ (k : Int) := by omega
                    have j2 : (k : Int) < (V.chain.length : Int) := by omega
                    have j3 : (k : Int) < (V.since.length : Int) := by omega
                    have j4 : (k : Int) < (V.boot.length : Int) := by omega
                    obtain ⟨p, hp⟩ : ∃ p, placeV U y = p := ⟨_, rfl⟩
                    rw [hp] at hat
                    have cP := Lib.hid (cPl.out y p hp)
                    have mkK_0 : ∀ X' : World, Below wm.heap.size wm X' → X'.cell? ⟨w1.heap.size + 1 + 1 + 1, 0, none⟩ = some (.int .i64 V.epoch) ∧ X'.cell? ⟨w1.heap.size + 1 + 1 + 1, 1, none⟩ = some (.slice (some ⟨r1, s1, none⟩) V.chain.length k1) ∧ X'.cell? ⟨w1.heap.size + 1 + 1 + 1, 2, none⟩ = some (.slice (some ⟨r2, s2, none⟩) V.since.length k2) ∧ X'.cell? ⟨w1.heap.size + 1 + 1 + 1, 3, none⟩ = some (.slice (some ⟨r3, s3, none⟩) V.boot.length k3) ∧ X'.cell? ⟨g, 0, none⟩ = some (.int .i64 U.epoch) ∧ X'.cell? ⟨g, 1, none⟩ = some (.slice e1 U.chain.length m1) ∧ X'.cell? ⟨g, 2, none⟩ = some (.slice e2 U.since.length m2) ∧ X'.cell? ⟨g, 3, none⟩ = some (.slice e3 U.boot.length m3) ∧ X'.cell? ⟨nb, no + i, none⟩ = some (.int .i64 n) ∧ X'.cell? ⟨r1, s1 + k, none⟩ = some (.int .i64 y) ∧ X'.cell? ⟨r2, s2 + k, none⟩ = some (.int .i64 ys) ∧ X'.cell? ⟨r3, s3 + k, none⟩ = some (.int .i64 yb) ∧ Below wm.heap.size wm X' := by
                      intro X' hk'
                      obtain ⟨y0, y1, y2, y3, z0, z1, z2, z3, n0, hb'⟩ := mkT.out X' hk'
                      exact ⟨y0, y1, y2, y3, z0, z1, z2, z3, n0, (hk'.cell (p := ⟨r1, s1 + k, none⟩) (World.block_lt_of_cell? _ _ hc1)).trans hc1, (hk'.cell (p := ⟨r2, s2 + k, none⟩) (World.block_lt_of_cell? _ _ hc2)).trans hc2, (hk'.cell (p := ⟨r3, s3 + k, none⟩) (World.block_lt_of_cell? _ _ hc3)).trans hc3, hb'⟩
                    have mkK := Lib.hid mkK_0
                    clear mkK_0
                    have lowK_0 : ∀ X' : World, (X'.cell? ⟨w1.heap.size + 1 + 1 + 1, 0, none⟩ = some (.int .i64 V.epoch) ∧ X'.cell? ⟨w1.heap.size + 1 + 1 + 1, 1, none⟩ = some (.slice (some ⟨r1, s1, none⟩) V.chain.length k1) ∧ X'.cell? ⟨w1.heap.size + 1 + 1 + 1, 2, none⟩ = some (.slice (some ⟨r2, s2, none⟩) V.since.length k2) ∧ X'.cell? ⟨w1.heap.size + 1 + 1 + 1, 3, none⟩ = some (.slice (some ⟨r3, s3, none⟩) V.boot.length k3) ∧ X'.cell? ⟨g, 0, none⟩ = some (.int .i64 U.epoch) ∧ X'.cell? ⟨g, 1, none⟩ = some (.slice e1 U.chain.length m1) ∧ X'.cell? ⟨g, 2, none⟩ = some (.slice e2 U.since.length m2) ∧ X'.cell? ⟨g, 3, none⟩ = some (.slice e3 U.boot.length m3) ∧ X'.cell? ⟨nb, no + i, none⟩ = some (.int .i64 n) ∧ X'.cell? ⟨r1, s1 + k, none⟩ = some (.int .i64 y) ∧ X'.cell? ⟨r2, s2 + k, none⟩ = some (.int .i64 ys) ∧ X'.cell? ⟨r3, s3 + k, none⟩ = some (.int .i64 yb) ∧ Below wm.heap.size wm X') → Below wm.heap.size wm X' := fun X' h => h.2.2.2.2.2.2.2.2.2.2.2.2
                    have lowK := Lib.hid lowK_0
                    clear lowK_0
                    have keepK_0 : ∀ X' X'' : World, (X'.cell? ⟨w1.heap.size + 1 + 1 + 1, 0, none⟩ = some (.int .i64 V.epoch) ∧ X'.cell? ⟨w1.heap.size + 1 + 1 + 1, 1, none⟩ = some (.slice (some ⟨r1, s1, none⟩) V.chain.length k1) ∧ X'.cell? ⟨w1.heap.size + 1 + 1 + 1, 2, none⟩ = some (.slice (some ⟨r2, s2, none⟩) V.since.length k2) ∧ X'.cell? ⟨w1.heap.size + 1 + 1 + 1, 3, none⟩ = some (.slice (some ⟨r3, s3, none⟩) V.boot.length k3) ∧ X'.cell? ⟨g, 0, none⟩ = some (.int .i64 U.epoch) ∧ X'.cell? ⟨g, 1, none⟩ = some (.slice e1 U.chain.length m1) ∧ X'.cell? ⟨g, 2, none⟩ = some (.slice e2 U.since.length m2) ∧ X'.cell? ⟨g, 3, none⟩ = some (.slice e3 U.boot.length m3) ∧ X'.cell? ⟨nb, no + i, none⟩ = some (.int .i64 n) ∧ X'.cell? ⟨r1, s1 + k, none⟩ = some (.int .i64 y) ∧ X'.cell? ⟨r2, s2 + k, none⟩ = some (.int .i64 ys) ∧ X'.cell? ⟨r3, s3 + k, none⟩ = some (.int .i64 yb) ∧ Below wm.heap.size wm X') → Below X'.heap.size X' X'' → X''.cell? ⟨w1.heap.size + 1 + 1 + 1, 0, none⟩ = some (.int .i64 V.epoch) ∧ X''.cell? ⟨w1.heap.size + 1 + 1 + 1, 1, none⟩ = some (.slice (some ⟨r1, s1, none⟩) V.chain.length k1) ∧ X''.cell? ⟨w1.heap.size + 1 + 1 + 1, 2, none⟩ = some (.slice (some ⟨r2, s2, none⟩) V.since.length k2) ∧ X''.cell? ⟨w1.heap.size + 1 + 1 + 1, 3, none⟩ = some (.slice (some ⟨r3, s3, none⟩) V.boot.length k3) ∧ X''.cell? ⟨g, 0, none⟩ = some (.int .i64 U.epoch) ∧ X''.cell? ⟨g, 1, none⟩ = some (.slice e1 U.chain.length m1) ∧ X''.cell? ⟨g, 2, none⟩ = some (.slice e2 U.since.length m2) ∧ X''.cell? ⟨g, 3, none⟩ = some (.slice e3 U.boot.length m3) ∧ X''.cell? ⟨nb, no + i, none⟩ = some (.int .i64 n) ∧ X''.cell? ⟨r1, s1 + k, none⟩ = some (.int .i64 y) ∧ X''.cell? ⟨r2, s2 + k, none⟩ = some (.int .i64 ys) ∧ X''.cell? ⟨r3, s3 + k, none⟩ = some (.int .i64 yb) ∧ Below wm.heap.size wm X'' := fun X' X'' h k => mkK.out X'' (below_more (lowK.out _ h) (lowK.out _ h).size k)
                    have keepK := Lib.hid keepK_0
                    clear keepK_0
                    have hK0 := mkK.out wr.drew hbl.drew
                    clear hp
                    go_wp2_with fail
                    go_region_held3 (fun X' => X'.cell? ⟨w1.heap.size + 1 + 1 + 1, 0, none⟩ = some (.int .i64 V.epoch) ∧ X'.cell? ⟨w1.heap.size + 1 + 1 + 1, 1, none⟩ = some (.slice (some ⟨r1, s1, none⟩) V.chain.length k1) ∧ X'.cell? ⟨w1.heap.size + 1 + 1 + 1, 2, none⟩ = some (.slice (some ⟨r2, s2, none⟩) V.since.length k2) ∧ X'.cell? ⟨w1.heap.size + 1 + 1 + 1, 3, none⟩ = some (.slice (some ⟨r3, s3, none⟩) V.boot.length k3) ∧ X'.cell? ⟨g, 0, none⟩ = some (.int .i64 U.epoch) ∧ X'.cell? ⟨g, 1, none⟩ = some (.slice e1 U.chain.length m1) ∧ X'.cell? ⟨g, 2, none⟩ = some (.slice e2 U.since.length m2) ∧ X'.cell? ⟨g, 3, none⟩ = some (.slice e3 U.boot.length m3) ∧ X'.cell? ⟨nb, no + i, none⟩ = some (.int .i64 n) ∧ X'.cell? ⟨r1, s1 + k, none⟩ = some (.int .i64 y) ∧ X'.cell? ⟨r2, s2 + k, none⟩ = some (.int .i64 ys) ∧ X'.cell? ⟨r3, s3 + k, none⟩ = some (.int .i64 yb) ∧ Below wm.heap.size wm X') (first | exact hK0 | exact keepK.out _ _ (by assumption) (by assumption))
                      (first | ((with_reducible refine (cP.out _ ?_).mono ?_); exact lowK.out _ (by assumption); rintro e w6 ⟨rfl, hb6⟩))
                    have hK6 := keepK.out _ _ hK0 hb6
                    have hbl6 := lowK.out _ hK6
                    obtain ⟨y0, y1, y2, y3, z0, z1, z2, z3, n0, v0, v1, v2, _⟩ := mkK.out w6.drew hbl6.drew
                    rcases hat with ⟨hp0, rfl, hQ⟩ | ⟨hp0, hQ1, hQ2, hS1, hS2⟩
                    · go_wp2_with fail
                      go_quiet (fail)
                      go_wp2_with fail
                      go_roundw
                      case rel => exact ⟨k + 1, by omega, by go_num, last, rfl, by omega, below_drewN hbl6 _⟩
                      case measure => simp [intOf]; omega
                    · have gp : ¬ p < 0 := by omega
                      have gl : decide (p ≤ last) = false := by rw [decide_eq_false_iff_not]; omega
                      have cS := Lib.hid (cSl.out y ys hS1)
                      have cB := Lib.hid (cBl.out y yb hS2)
                      have hK7 := mkK.out w6.drew hbl6.drew
                      clear hS1 hS2
                      go_wp2_with fail
                      go_region_held3 (fun X' => X'.cell? ⟨w1.heap.size + 1 + 1 + 1, 0, none⟩ = some (.int .i64 V.epoch) ∧ X'.cell? ⟨w1.heap.size + 1 + 1 + 1, 1, none⟩ = some (.slice (some ⟨r1, s1, none⟩) V.chain.length k1) ∧ X'.cell? ⟨w1.heap.size + 1 + 1 + 1, 2, none⟩ = some (.slice (some ⟨r2, s2, none⟩) V.since.length k2) ∧ X'.cell? ⟨w1.heap.size + 1 + 1 + 1, 3, none⟩ = some (.slice (some ⟨r3, s3, none⟩) V.boot.length k3) ∧ X'.cell? ⟨g, 0, none⟩ = some (.int .i64 U.epoch) ∧ X'.cell? ⟨g, 1, none⟩ = some (.slice e1 U.chain.length m1) ∧ X'.cell? ⟨g, 2, none⟩ = some (.slice e2 U.since.length m2) ∧ X'.cell? ⟨g, 3, none⟩ = some (.slice e3 U.boot.length m3) ∧ X'.cell? ⟨nb, no + i, none⟩ = some (.int .i64 n) ∧ X'.cell? ⟨r1, s1 + k, none⟩ = some (.int .i64 y) ∧ X'.cell? ⟨r2, s2 + k, none⟩ = some (.int .i64 ys) ∧ X'.cell? ⟨r3, s3 + k, none⟩ = some (.int .i64 yb) ∧ Below wm.heap.size wm X') (first | exact hK7 | exact keepK.out _ _ (by assumption) (by assumption))
                        (first
                          | ((with_reducible refine (cS.out _ ?_).mono ?_); exact lowK.out _ (by assumption); rintro e w7 ⟨rfl, hb7⟩)
                          | ((with_reducible refine (cB.out _ ?_).mono ?_); exact lowK.out _ (by assumption); rintro e w8 ⟨rfl, hb8⟩))
                      have hbl8 := lowK.out _ (keepK.out _ _ (keepK.out _ _ hK7 hb7) hb8)
                      go_wp2_with fail
                      go_roundw
                      case rel => exact ⟨k + 1, by omega, by go_num, p, rfl, by omega, hbl8⟩
                      case measure => simp [intOf]; omega
                  · have g : ¬ ((k : Int) < (V.chain.length : Int)) := by omega
                    have hg6l2 := (hbl.block _ hg6ml).trans hg6m
                    obtain ⟨fz0, fz1, fz2, fz3⟩ := block_frozen hg6l2
                    go_wp2_with fail
                    go_roundw
                    case rel =>
                      refine ⟨i + 1, by omega, by go_num, U, e1, e2, e3, m1, m2, m3, hUr, hsU, by rw [HST.out.e]; omega, hw1, ?_, ?_, ?_, ?_⟩
                      · have := hbl.size
                        have := hbx2.size
                        simp only [World.size_setCell]
                        omega
                      · exact below_set4 ((hb.trans (hbx2.mono hb.size)).trans (hbl.mono (Nat.le_trans hb.size hbx2.size))) _ (by omega) _ _ _ _
                      · exact block_set (block_set (block_set (block_set hg6l2 0 _) 1 _) 2 _) 3 _
                      · have k := view_set4 ((HVU.out.keep hbl (Nat.le_refl _)).up hbl.size) hfU (w1.heap.size + 1 + 1 + 1) hg6l (.int .i64 U.epoch) (.slice e1 U.chain.length m1) (.slice e2 U.since.length m2) (.slice e3 U.boot.length m3)
                        simpa using k
                    case measure => simp [intOf]; omega
            · have g9 : ((code2 : Int) != 0) = true := by rw [bne_iff_ne]; omega
              go_wp2_with fail
              go_roundw
              case rel =>
                exact ⟨i + 1, by omega, by go_num, V, a1, a2, a3, k1, k2, k3, HR.out, hs, by omega, hw1, Nat.le_trans hwr hbx2.size, hb.trans (hbx2.mono hb.size), (hbx2.block _ hg6l).trans hg6, (HVV.out.keep hbx2 (Nat.le_refl _)).up hbx2.size⟩
              case measure => simp [intOf]; omega
      · have g : ¬ ((i : Int) < (l.length : Int)) := by omega
        go_wp2_with fail
        go_ret
        exact ⟨rfl, hb⟩
  · go_enter Try.func5, Try.ntmps5
    go_wp2_with fail
    refine (C1.out _).mono ?_
    rintro e w1 ⟨rfl, hb1⟩
    go_wp2_with fail
    all_goals first
      | (go_ret; exact ⟨rfl, hb1⟩)
      | (exfalso; omega)
end Go.Proofs.Ytigojackdkaanaa
