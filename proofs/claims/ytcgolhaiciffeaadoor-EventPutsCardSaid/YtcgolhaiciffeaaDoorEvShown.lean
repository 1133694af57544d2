/-
  The walks of bucketlinelaw5.shown and bucketlinelaw5.light.
-/
import Derived.Test.YtcgolhaiciffeaaDoorEvPut
namespace Go.Proofs.YtcgolhaiciffeaaDoor
open Go.RowKit

theorem nameB_k : nameB ⟨#[107]⟩ = true := by decide +kernel
theorem nameB_s : nameB ⟨#[115]⟩ = true := by decide +kernel
theorem nameB_ab : nameB ⟨#[97, 32, 98]⟩ = false := by decide +kernel
def evK : EV := ⟨⟨#[107]⟩, ⟨#[120, 121]⟩⟩
def evA : EV := ⟨⟨#[97, 32, 98]⟩, ⟨#[]⟩⟩
def baS : BW := ⟨⟨#[115]⟩, 0, 1, 1, []⟩
theorem putE_k : putE evK = ⟨#[1, 107, 2, 120, 121]⟩ := by
  have h : rightE evK = true := by
    rw [rightE, show nameB evK.kind = true from nameB_k]
    rfl
  rw [putE, if_pos h, bytesE, pT, pT, putT, putT]
  rw [show clampN (evK.kind.data.toList.length : Int) = 1 by decide, show clampN (evK.data.data.toList.length : Int) = 2 by decide, putN_small (by omega), putN_small (by omega)]
  rfl
theorem fits_s : fitsB baS = 1 := by
  rw [fitsB, if_pos]
  exact .inr (.inr (.inr (.inr (.inr rfl))))
theorem right_a : rightE evA = false := by
  rw [rightE, show nameB evA.kind = false from nameB_ab]
  simp

set_option maxRecDepth 100000 in
set_option maxHeartbeats 1600000 in
theorem shown_any (w : World) (hT : Tabs w) :
    Calls Tryd.prog 9 #[] w fun r w' => r = .returned (.bool true) ∧ Below w.heap.size w w' := by
  have HT := Lib.hid hT
  have C1' := (putE_any evK ⟨by decide, by decide⟩ _ putE_k w hT)
  have C2' := (fun (w1 : World) (h : Tabs w1) => fits_any w1.heap.size _ baS 1 fits_s w1 ⟨_, rfl, events_nil _ _⟩ (Nat.le_refl _) h)
  have C3' := (fun (w1 : World) (h : Tabs w1) => right_any evA false right_a w1 h)
  simp only [evK] at C1'
  simp only [baS] at C2'
  simp only [evA] at C3'
  have C1 := Lib.hid C1'
  have C2 := Lib.hid C2'
  have C3 := Lib.hid C3'
  clear hT C1' C2' C3'
  go_enter Tryd.func9, Tryd.ntmps9
  go_wp2_with fail
  refine C1.out.mono ?_
  rintro r w1 ⟨rfl, hb1⟩
  have t1 := tabs_below HT.out hb1
  go_wp2_with fail
  refine (C2.out _ t1).mono ?_
  rintro r w2 ⟨rfl, hb2⟩
  have t2 := tabs_below t1 hb2
  go_wp2_with fail
  refine (C3.out _ t2).mono ?_
  rintro r w3 ⟨rfl, hb3⟩
  go_wp2_with fail
  go_ret
  exact ⟨rfl, bstep (bstep hb1 hb2) hb3⟩

theorem lightQ (b : BW) : ∃ q : Bool, q = true ↔ LightB b := by
  by_cases h : LightB b
  · exact ⟨true, fun _ => h, fun _ => rfl⟩
  · exact ⟨false, fun e => (by cases e), fun k => absurd k h⟩

set_option maxRecDepth 100000 in
set_option maxHeartbeats 3200000 in
theorem light_any (B : Nat) (v : Value) (b : BW) (q : Bool) (hq : q = true ↔ LightB b) (w : World) (h : IsBatch B w v b) (hB : B ≤ w.heap.size) :
    Calls Tryd.prog 10 #[v] w fun r w' => r = .returned (.bool q) ∧ Below w.heap.size w w' := by
  obtain ⟨lv, rfl, hl⟩ := h
  have HL := Lib.hid hl
  obtain ⟨a, cap, rfl⟩ := hl.form
  have hmax : b.events.length ≤ 9223372036854775807 := by obtain ⟨_, _, he, h1, h2, _⟩ := HL.out; unfold maxLen at h2; omega
  have bx0 := bx_new (w := w) (.cells #[.string b.stream, .int .i64 b.expect, .int .i64 b.session, .int .i64 b.seq, .slice a b.events.length cap] 24)
  obtain ⟨y0, y1, y2, y3, y4⟩ := box5 bx0
  have BX0 := Lib.hid bx0
  have HB := Lib.hid hB
  have HQ := Lib.hid hq
  clear hl bx0 hB hq
  by_cases h1 : 300 < b.stream.size
  · have g1 : (300 : Int) < (b.stream.size : Int) := by omega
    obtain rfl : q = false := (by rw [Bool.eq_false_iff]; intro e; exact (fun h : LightB b => absurd h.s (by omega)) (HQ.out.1 e))
    go_enter Tryd.func10, Tryd.ntmps10
    go_wp2_with fail
    go_ret
    exact ⟨rfl, bx_below BX0.out⟩
  · have g1 : ¬ (300 : Int) < (b.stream.size : Int) := by omega
    by_cases h2 : 20 < b.events.length
    · have g2 : (20 : Int) < (b.events.length : Int) := by omega
      obtain rfl : q = false := (by rw [Bool.eq_false_iff]; intro e; exact (fun h : LightB b => absurd h.n (by omega)) (HQ.out.1 e))
      go_enter Tryd.func10, Tryd.ntmps10
      go_wp2_with fail
      go_ret
      exact ⟨rfl, bx_below BX0.out⟩
    · have g2 : ¬ (20 : Int) < (b.events.length : Int) := by omega
      go_enter Tryd.func10, Tryd.ntmps10
      go_wp2_with fail
      go_loopw [3] (fun t3 wr => ∃ k : Nat, k ≤ b.events.length ∧ t3 = .int .i64 k ∧ (∀ i, (hi : i < b.events.length) → i < k → LightE b.events[i]) ∧ Below (w.heap.size + 1) (w.alloc (.cells #[.string b.stream, .int .i64 b.expect, .int .i64 b.session, .int .i64 b.seq, .slice a b.events.length cap] 24)) wr) (fun t3 _ => b.events.length - (intOf t3).toNat)
      case atStart => exact ⟨0, Nat.zero_le _, rfl, fun i _ h => absurd h (by omega), BX0.out⟩
      case round =>
        obtain ⟨k, hk, rfl, hno, bx⟩ := hrel
        have Hno := Lib.hid hno
        clear hno y0 y1 y2 y3 y4
        obtain ⟨y0, y1, y2, y3, y4⟩ := box5 bx
        by_cases hlt : k < b.events.length
        · obtain ⟨bb, off, cap', he, hblk, _, hc1, hc2⟩ := (HL.out.keep (bx_below bx) HB.out).get k hlt
          obtain ⟨rfl, -, rfl⟩ : a = some ⟨bb, off, none⟩ ∧ b.events.length = b.events.length ∧ cap = cap' := by injection he with e1 e2 e3; exact ⟨e1, e2, e3⟩
          clear he
          obtain ⟨y, hy⟩ : ∃ y, b.events[k] = y := ⟨_, rfl⟩
          rw [hy] at hc1 hc2
          have Hy := Lib.hid hy
          clear hy
          have i1 : (0 : Int) ≤ (k : Int) := by omega
          have i2 : (k : Int) < (b.events.length : Int) := by omega
          by_cases h3 : 300 < y.kind.size
          · have g3 : (300 : Int) < (y.kind.size : Int) := by omega
            obtain rfl : q = false := (by rw [Bool.eq_false_iff]; intro e; exact (fun h : LightB b => absurd (h.e _ (List.getElem_mem hlt)).k (by rw [Hy.out]; omega)) (HQ.out.1 e))
            go_wp2_with fail
            go_ret
            exact ⟨rfl, bx_below bx⟩
          · have g3 : ¬ (300 : Int) < (y.kind.size : Int) := by omega
            by_cases h4 : 500 < y.data.size
            · have g4 : (500 : Int) < (y.data.size : Int) := by omega
              obtain rfl : q = false := (by rw [Bool.eq_false_iff]; intro e; exact (fun h : LightB b => absurd (h.e _ (List.getElem_mem hlt)).d (by rw [Hy.out]; omega)) (HQ.out.1 e))
              go_wp2_with fail
              go_ret
              exact ⟨rfl, bx_below bx⟩
            · have g4 : ¬ (500 : Int) < (y.data.size : Int) := by omega
              go_wp2_with fail
              go_roundw
              case rel =>
                refine ⟨k + 1, by omega, by go_num, fun i hi hik => ?_, bx⟩
                by_cases e : i = k
                · subst e
                  rw [Hy.out]
                  exact ⟨by omega, by omega⟩
                · exact Hno.out i hi (by omega)
              case measure => simp [intOf]; omega
        · have g : ¬ ((k : Int) < (b.events.length : Int)) := by omega
          obtain rfl : q = true := HQ.out.2 ⟨by omega, by omega, fun x hx => by
            obtain ⟨i, hi, rfl⟩ := List.getElem_of_mem hx
            exact Hno.out i hi (by omega)⟩
          go_wp2_with fail
          go_ret
          exact ⟨rfl, bx_below bx⟩
end Go.Proofs.YtcgolhaiciffeaaDoor
