/-
  The walks of slices.Equal at events, of event.Same and of bucketlinelaw5.sameBatch. Printed by gen_evsame.py of this claim's writer.
-/
import Derived.Test.YtcgolhaiciffeaaDoorEvShown
import Derived.BigQuiet
import Derived.Laws.StructEq
import Derived.Deep.QuietTactic
namespace Go.Proofs.YtcgolhaiciffeaaDoor
open Go.RowKit

theorem EV.ext' {x y : EV} (h1 : x.kind = y.kind) (h2 : x.data = y.data) : x = y := by cases x; cases y; simp_all
theorem BW.ext' {x y : BW} (h1 : x.stream = y.stream) (h2 : x.expect = y.expect) (h3 : x.session = y.session) (h4 : x.seq = y.seq) (h5 : x.events = y.events) : x = y := by cases x; cases y; simp_all
theorem eqQ {p : Prop} : ∃ q : Bool, q = true ↔ p := by
  by_cases h : p
  · exact ⟨true, fun _ => h, fun _ => rfl⟩
  · exact ⟨false, fun e => (by cases e), fun k => absurd k h⟩
theorem bytes_eq {a b : ByteArray} (h : (a.toList == b.toList) = true) : a = b := by
  rw [beq_iff_eq, ByteArray.toList_eq, ByteArray.toList_eq] at h
  exact ByteArray.ext (Array.toList_inj.1 h)
theorem list_eq {l m : List EV} (h1 : l.length = m.length) (h : ∀ i (hi : i < l.length) (hj : i < m.length), l[i] = m[i]) : l = m := List.ext_getElem h1 h

theorem box55 {w X : World} {a0 a1 a2 a3 a4 c0 c1 c2 c3 c4 : Value} {t t' : TypeId} (hb : Below (w.heap.size + 2) ((w.alloc (.cells #[a0, a1, a2, a3, a4] t)).alloc (.cells #[c0, c1, c2, c3, c4] t')) X) :
    (X.cell? ⟨w.heap.size, 0, none⟩ = some a0 ∧ X.cell? ⟨w.heap.size, 1, none⟩ = some a1 ∧ X.cell? ⟨w.heap.size, 2, none⟩ = some a2 ∧ X.cell? ⟨w.heap.size, 3, none⟩ = some a3 ∧ X.cell? ⟨w.heap.size, 4, none⟩ = some a4) ∧
    X.cell? ⟨w.heap.size + 1, 0, none⟩ = some c0 ∧ X.cell? ⟨w.heap.size + 1, 1, none⟩ = some c1 ∧ X.cell? ⟨w.heap.size + 1, 2, none⟩ = some c2 ∧ X.cell? ⟨w.heap.size + 1, 3, none⟩ = some c3 ∧ X.cell? ⟨w.heap.size + 1, 4, none⟩ = some c4 :=
  ⟨⟨(hb.cell (p := ⟨w.heap.size, 0, none⟩) (by simp)).trans (by simp), (hb.cell (p := ⟨w.heap.size, 1, none⟩) (by simp)).trans (by simp), (hb.cell (p := ⟨w.heap.size, 2, none⟩) (by simp)).trans (by simp),
    (hb.cell (p := ⟨w.heap.size, 3, none⟩) (by simp)).trans (by simp), (hb.cell (p := ⟨w.heap.size, 4, none⟩) (by simp)).trans (by simp)⟩,
    (hb.cell (p := ⟨w.heap.size + 1, 0, none⟩) (by simp)).trans (by simp), (hb.cell (p := ⟨w.heap.size + 1, 1, none⟩) (by simp)).trans (by simp), (hb.cell (p := ⟨w.heap.size + 1, 2, none⟩) (by simp)).trans (by simp),
    (hb.cell (p := ⟨w.heap.size + 1, 3, none⟩) (by simp)).trans (by simp), (hb.cell (p := ⟨w.heap.size + 1, 4, none⟩) (by simp)).trans (by simp)⟩
theorem bz_below {w X : World} {o o' : Obj} (h : Below (w.heap.size + 2) ((w.alloc o).alloc o') X) : Below w.heap.size w X := (((Below.refl _ _).alloc (Nat.le_refl _) o).alloc (by rw [World.size_alloc]; omega) o').trans (h.mono (by omega))
theorem bz_size {w X : World} {o o' : Obj} (h : Below (w.heap.size + 2) ((w.alloc o).alloc o') X) : w.heap.size + 2 ≤ X.heap.size := by have := h.size; simpa using this
theorem bz_more {w X X' : World} {o o' : Obj} (h : Below (w.heap.size + 2) ((w.alloc o).alloc o') X) (k : Below X.heap.size X X') : Below (w.heap.size + 2) ((w.alloc o).alloc o') X' := h.trans (k.mono (bz_size h))

set_option maxRecDepth 100000 in
set_option maxHeartbeats 1600000 in
theorem equal_any (B : Nat) (v u : Value) (l m : List EV) (q : Bool) (hq : q = true ↔ l = m) (w : World) (h1 : IsEvents B w v l) (h2 : IsEvents B w u m) (hB : B ≤ w.heap.size) :
    Calls Tryd.prog 38 #[v, u] w fun r w' => r = .returned (.bool q) ∧ Below w.heap.size w w' := by
  have H1 := Lib.hid h1
  have H2 := Lib.hid h2
  have HQ := Lib.hid hq
  obtain ⟨a1, c1, rfl⟩ := h1.form
  obtain ⟨a2, c2, rfl⟩ := h2.form
  have hmax : l.length ≤ 9223372036854775807 := by obtain ⟨_, _, he, h1, h2, _⟩ := H1.out; unfold maxLen at h2; omega
  have HB := Lib.hid hB
  clear h1 h2 hq hB
  by_cases hl : l.length = m.length
  · have g : ((l.length : Int) != (m.length : Int)) = false := by simp [hl]
    have HLM := Lib.hid hl
    clear hl
    go_enter Tryd.func38, Tryd.ntmps38
    go_wp2_with fail
    go_loopw [5, 13] (fun _ t13 wr => ∃ k : Nat, k ≤ l.length ∧ t13 = .int .i64 k ∧ (∀ i (hi : i < l.length) (hj : i < m.length), i < k → l[i] = m[i]) ∧ Below w.heap.size w wr) (fun _ t13 _ => l.length - (intOf t13).toNat)
    case atStart => exact ⟨0, Nat.zero_le _, rfl, fun i _ _ h => absurd h (by omega), Below.refl _ _⟩
    case round =>
      obtain ⟨k, hk, rfl, hno, hbl⟩ := hrel
      have Hno := Lib.hid hno
      clear hno
      by_cases hlt : k < l.length
      · have hlt2 : k < m.length := by have := HLM.out; omega
        obtain ⟨b1, o1, q1, he, _, _, hc1, hc2⟩ := (H1.out.keep hbl HB.out).get k hlt
        obtain ⟨rfl, -, rfl⟩ : a1 = some ⟨b1, o1, none⟩ ∧ l.length = l.length ∧ c1 = q1 := by injection he with e1 e2 e3; exact ⟨e1, e2, e3⟩
        clear he
        obtain ⟨b2, o2, q2, he, _, _, hd1, hd2⟩ := (H2.out.keep hbl HB.out).get k hlt2
        obtain ⟨rfl, -, rfl⟩ : a2 = some ⟨b2, o2, none⟩ ∧ m.length = m.length ∧ c2 = q2 := by injection he with e1 e2 e3; exact ⟨e1, e2, e3⟩
        clear he
        obtain ⟨y, hy⟩ : ∃ y, l[k] = y := ⟨_, rfl⟩
        obtain ⟨z, hz⟩ : ∃ y, m[k] = y := ⟨_, rfl⟩
        rw [hy] at hc1 hc2
        rw [hz] at hd1 hd2
        have HY := Lib.hid hy
        have HZ := Lib.hid hz
        clear hy hz
        have i1 : (0 : Int) ≤ (k : Int) := by omega
        have i2 : (k : Int) < (l.length : Int) := by omega
        have i3 : (k : Int) < (m.length : Int) := by omega
        obtain ⟨t1, ht1⟩ : ∃ t, (y.kind.toList == z.kind.toList) = t := ⟨_, rfl⟩
        obtain ⟨t2, ht2⟩ : ∃ t, (y.data.toList == z.data.toList) = t := ⟨_, rfl⟩
        cases t1 with
        | false =>
          obtain rfl : q = false := by
            rw [Bool.eq_false_iff]
            intro e
            have hlm := HQ.out.1 e
            subst hlm
            rw [← HY.out, ← HZ.out] at ht1
            simp at ht1
          go_wp2_with fail
          go_quiet (fail)
          go_wp2_with fail
          go_ret
          exact ⟨rfl, below_drewN hbl _⟩
        | true =>
          cases t2 with
          | false =>
            obtain rfl : q = false := by
              rw [Bool.eq_false_iff]
              intro e
              have hlm := HQ.out.1 e
              subst hlm
              rw [← HY.out, ← HZ.out] at ht2
              simp at ht2
            go_wp2_with fail
            go_quiet (fail)
            go_wp2_with fail
            go_ret
            exact ⟨rfl, below_drewN hbl _⟩
          | true =>
            have heq : y = z := EV.ext' (bytes_eq ht1) (bytes_eq ht2)
            have HEQ := Lib.hid heq
            clear heq
            go_wp2_with fail
            go_quiet (fail)
            go_wp2_with fail
            go_roundw
            case rel =>
              refine ⟨k + 1, by omega, by go_num, fun i hi hj hik => ?_, below_drewN hbl _⟩
              by_cases e : i = k
              · subst e
                rw [HY.out, HZ.out]
                exact HEQ.out
              · exact Hno.out i hi hj (by omega)
            case measure => simp [intOf]; omega
      · have g2 : ¬ ((k : Int) < (l.length : Int)) := by omega
        obtain rfl : q = true := HQ.out.2 (list_eq HLM.out (fun i hi hj => Hno.out i hi hj (by omega)))
        go_wp2_with fail
        go_ret
        exact ⟨rfl, hbl⟩
  · have g : ((l.length : Int) != (m.length : Int)) = true := by simp; omega
    obtain rfl : q = false := by
      rw [Bool.eq_false_iff]
      exact fun e => hl (by rw [HQ.out.1 e])
    go_enter Tryd.func38, Tryd.ntmps38
    go_wp2_with fail
    go_ret
    exact ⟨rfl, Below.refl _ _⟩

set_option maxRecDepth 100000 in
set_option maxHeartbeats 3200000 in
theorem same_any (B : Nat) (v u : Value) (a b : BW) (q : Bool) (hq : q = true ↔ a = b) (w : World) (h1 : IsBatch B w v a) (h2 : IsBatch B w u b) (hB : B ≤ w.heap.size) :
    Calls Tryd.prog 19 #[v, u] w fun r w' => r = .returned (.bool q) ∧ Below w.heap.size w w' := by
  have HQ := Lib.hid hq
  obtain ⟨lv, rfl, hl1⟩ := h1
  obtain ⟨lu, rfl, hl2⟩ := h2
  have HL1 := Lib.hid hl1
  have HL2 := Lib.hid hl2
  obtain ⟨a1, c1, rfl⟩ := hl1.form
  obtain ⟨a2, c2, rfl⟩ := hl2.form
  have hmax : a.events.length ≤ 9223372036854775807 := by obtain ⟨_, _, he, h1, h2, _⟩ := HL1.out; unfold maxLen at h2; omega
  have bz0 : Below (w.heap.size + 2) ((w.alloc (.cells #[.string a.stream, .int .i64 a.expect, .int .i64 a.session, .int .i64 a.seq, .slice a1 a.events.length c1] 24)).alloc (.cells #[.string b.stream, .int .i64 b.expect, .int .i64 b.session, .int .i64 b.seq, .slice a2 b.events.length c2] 24)) ((w.alloc (.cells #[.string a.stream, .int .i64 a.expect, .int .i64 a.session, .int .i64 a.seq, .slice a1 a.events.length c1] 24)).alloc (.cells #[.string b.stream, .int .i64 b.expect, .int .i64 b.session, .int .i64 b.seq, .slice a2 b.events.length c2] 24)) := Below.refl _ _
  obtain ⟨⟨y0, y1, y2, y3, y4⟩, x0, x1, x2, x3, x4⟩ := box55 bz0
  have BZ0 := Lib.hid bz0
  have HB := Lib.hid hB
  clear hq hB bz0 hl1 hl2
  obtain ⟨t0, ht0⟩ : ∃ t, (a.stream.toList == b.stream.toList) = t := ⟨_, rfl⟩
  cases t0 with
  | false =>
    obtain rfl : q = false := by
      rw [Bool.eq_false_iff]
      intro e
      have hlm := HQ.out.1 e
      rw [hlm] at ht0
      simp at ht0
    have hn0 : (a.stream.toList != b.stream.toList) = true := by rw [bne, ht0]; rfl
    go_enter Tryd.func19, Tryd.ntmps19
    go_wp2_with fail
    go_ret
    exact ⟨rfl, bz_below BZ0.out⟩
  | true =>
    have hn0 : (a.stream.toList != b.stream.toList) = false := by rw [bne, ht0]; rfl
    obtain ⟨t1, ht1⟩ : ∃ t, (a.expect == b.expect) = t := ⟨_, rfl⟩
    cases t1 with
    | false =>
      obtain rfl : q = false := by
        rw [Bool.eq_false_iff]
        intro e
        have hlm := HQ.out.1 e
        rw [hlm] at ht1
        simp at ht1
      have hn1 : (a.expect != b.expect) = true := by rw [bne, ht1]; rfl
      go_enter Tryd.func19, Tryd.ntmps19
      go_wp2_with fail
      go_ret
      exact ⟨rfl, bz_below BZ0.out⟩
    | true =>
      have hn1 : (a.expect != b.expect) = false := by rw [bne, ht1]; rfl
      obtain ⟨t2, ht2⟩ : ∃ t, (a.session == b.session) = t := ⟨_, rfl⟩
      cases t2 with
      | false =>
        obtain rfl : q = false := by
          rw [Bool.eq_false_iff]
          intro e
          have hlm := HQ.out.1 e
          rw [hlm] at ht2
          simp at ht2
        have hn2 : (a.session != b.session) = true := by rw [bne, ht2]; rfl
        go_enter Tryd.func19, Tryd.ntmps19
        go_wp2_with fail
        go_ret
        exact ⟨rfl, bz_below BZ0.out⟩
      | true =>
        have hn2 : (a.session != b.session) = false := by rw [bne, ht2]; rfl
        obtain ⟨t3, ht3⟩ : ∃ t, (a.seq == b.seq) = t := ⟨_, rfl⟩
        cases t3 with
        | false =>
          obtain rfl : q = false := by
            rw [Bool.eq_false_iff]
            intro e
            have hlm := HQ.out.1 e
            rw [hlm] at ht3
            simp at ht3
          have hn3 : (a.seq != b.seq) = true := by rw [bne, ht3]; rfl
          go_enter Tryd.func19, Tryd.ntmps19
          go_wp2_with fail
          go_ret
          exact ⟨rfl, bz_below BZ0.out⟩
        | true =>
          have hn3 : (a.seq != b.seq) = false := by rw [bne, ht3]; rfl
          have hall : q = true ↔ a.events = b.events := by
            constructor
            · exact fun e => by rw [HQ.out.1 e]
            · exact fun e => HQ.out.2 (BW.ext' (bytes_eq ht0) (beq_iff_eq.1 ht1) (beq_iff_eq.1 ht2) (beq_iff_eq.1 ht3) e)
          have C := Lib.hid (equal_any B _ _ a.events b.events q hall ((w.alloc (.cells #[.string a.stream, .int .i64 a.expect, .int .i64 a.session, .int .i64 a.seq, .slice a1 a.events.length c1] 24)).alloc (.cells #[.string b.stream, .int .i64 b.expect, .int .i64 b.session, .int .i64 b.seq, .slice a2 b.events.length c2] 24)) (HL1.out.keep (bz_below BZ0.out) HB.out) (HL2.out.keep (bz_below BZ0.out) HB.out) (by have := HB.out; simp only [World.size_alloc]; omega))
          clear hall
          go_enter Tryd.func19, Tryd.ntmps19
          go_wp2_with fail
          refine C.out.mono ?_
          rintro r w1 ⟨rfl, hb1⟩
          go_wp2_with fail
          go_ret
          exact ⟨rfl, bz_below (bz_more BZ0.out (hb1.mono (by simp)))⟩

set_option maxRecDepth 100000 in
set_option maxHeartbeats 3200000 in
theorem sameBatch_any (B : Nat) (v u : Value) (a b : BW) (q : Bool) (hq : q = true ↔ a = b) (w : World) (h1 : IsBatch B w v a) (h2 : IsBatch B w u b) (hB : B ≤ w.heap.size) :
    Calls Tryd.prog 20 #[v, u] w fun r w' => r = .returned (.bool q) ∧ Below w.heap.size w w' := by
  have HQ := Lib.hid hq
  obtain ⟨lv, rfl, hl1⟩ := h1
  obtain ⟨lu, rfl, hl2⟩ := h2
  have HL1 := Lib.hid hl1
  have HL2 := Lib.hid hl2
  obtain ⟨a1, c1, rfl⟩ := hl1.form
  obtain ⟨a2, c2, rfl⟩ := hl2.form
  have hmax : a.events.length ≤ 9223372036854775807 := by obtain ⟨_, _, he, h1, h2, _⟩ := HL1.out; unfold maxLen at h2; omega
  have bz0 : Below (w.heap.size + 2) ((w.alloc (.cells #[.string a.stream, .int .i64 a.expect, .int .i64 a.session, .int .i64 a.seq, .slice a1 a.events.length c1] 24)).alloc (.cells #[.string b.stream, .int .i64 b.expect, .int .i64 b.session, .int .i64 b.seq, .slice a2 b.events.length c2] 24)) ((w.alloc (.cells #[.string a.stream, .int .i64 a.expect, .int .i64 a.session, .int .i64 a.seq, .slice a1 a.events.length c1] 24)).alloc (.cells #[.string b.stream, .int .i64 b.expect, .int .i64 b.session, .int .i64 b.seq, .slice a2 b.events.length c2] 24)) := Below.refl _ _
  obtain ⟨⟨y0, y1, y2, y3, y4⟩, x0, x1, x2, x3, x4⟩ := box55 bz0
  have BZ0 := Lib.hid bz0
  have HB := Lib.hid hB
  clear hq hB bz0 hl1 hl2
  obtain ⟨t0, ht0⟩ : ∃ t, (a.stream.toList == b.stream.toList) = t := ⟨_, rfl⟩
  cases t0 with
  | false =>
    obtain rfl : q = false := by
      rw [Bool.eq_false_iff]
      intro e
      have hlm := HQ.out.1 e
      rw [hlm] at ht0
      simp at ht0
    have hn0 : (a.stream.toList != b.stream.toList) = true := by rw [bne, ht0]; rfl
    go_enter Tryd.func20, Tryd.ntmps20
    go_wp2_with fail
    go_ret
    exact ⟨rfl, bz_below BZ0.out⟩
  | true =>
    have hn0 : (a.stream.toList != b.stream.toList) = false := by rw [bne, ht0]; rfl
    obtain ⟨t1, ht1⟩ : ∃ t, (a.expect == b.expect) = t := ⟨_, rfl⟩
    cases t1 with
    | false =>
      obtain rfl : q = false := by
        rw [Bool.eq_false_iff]
        intro e
        have hlm := HQ.out.1 e
        rw [hlm] at ht1
        simp at ht1
      have hn1 : (a.expect != b.expect) = true := by rw [bne, ht1]; rfl
      go_enter Tryd.func20, Tryd.ntmps20
      go_wp2_with fail
      go_ret
      exact ⟨rfl, bz_below BZ0.out⟩
    | true =>
      have hn1 : (a.expect != b.expect) = false := by rw [bne, ht1]; rfl
      obtain ⟨t2, ht2⟩ : ∃ t, (a.session == b.session) = t := ⟨_, rfl⟩
      cases t2 with
      | false =>
        obtain rfl : q = false := by
          rw [Bool.eq_false_iff]
          intro e
          have hlm := HQ.out.1 e
          rw [hlm] at ht2
          simp at ht2
        have hn2 : (a.session != b.session) = true := by rw [bne, ht2]; rfl
        go_enter Tryd.func20, Tryd.ntmps20
        go_wp2_with fail
        go_ret
        exact ⟨rfl, bz_below BZ0.out⟩
      | true =>
        have hn2 : (a.session != b.session) = false := by rw [bne, ht2]; rfl
        obtain ⟨t3, ht3⟩ : ∃ t, (a.seq == b.seq) = t := ⟨_, rfl⟩
        cases t3 with
        | false =>
          obtain rfl : q = false := by
            rw [Bool.eq_false_iff]
            intro e
            have hlm := HQ.out.1 e
            rw [hlm] at ht3
            simp at ht3
          have hn3 : (a.seq != b.seq) = true := by rw [bne, ht3]; rfl
          go_enter Tryd.func20, Tryd.ntmps20
          go_wp2_with fail
          go_ret
          exact ⟨rfl, bz_below BZ0.out⟩
        | true =>
          have hn3 : (a.seq != b.seq) = false := by rw [bne, ht3]; rfl
          have hall : q = true ↔ a.events = b.events := by
            constructor
            · exact fun e => by rw [HQ.out.1 e]
            · exact fun e => HQ.out.2 (BW.ext' (bytes_eq ht0) (beq_iff_eq.1 ht1) (beq_iff_eq.1 ht2) (beq_iff_eq.1 ht3) e)
          have HALL := Lib.hid hall
          clear hall
          by_cases hl : a.events.length = b.events.length
          · have g : ((a.events.length : Int) != (b.events.length : Int)) = false := by simp [hl]
            have HLM := Lib.hid hl
            clear hl
            go_enter Tryd.func20, Tryd.ntmps20
            go_wp2_with fail
            go_loopw [5] (fun t5 wr => ∃ k : Nat, k ≤ a.events.length ∧ t5 = .int .i64 k ∧ (∀ i (hi : i < a.events.length) (hj : i < b.events.length), i < k → a.events[i] = b.events[i]) ∧ Below (w.heap.size + 2) ((w.alloc (.cells #[.string a.stream, .int .i64 a.expect, .int .i64 a.session, .int .i64 a.seq, .slice a1 a.events.length c1] 24)).alloc (.cells #[.string b.stream, .int .i64 b.expect, .int .i64 b.session, .int .i64 b.seq, .slice a2 b.events.length c2] 24)) wr) (fun t5 _ => a.events.length - (intOf t5).toNat)
            case atStart => exact ⟨0, Nat.zero_le _, rfl, fun i _ _ h => absurd h (by omega), BZ0.out⟩
            case round =>
              obtain ⟨k, hk, rfl, hno, hbl⟩ := hrel
              have Hno := Lib.hid hno
              clear hno y0 y1 y2 y3 y4 x0 x1 x2 x3 x4
              obtain ⟨⟨y0, y1, y2, y3, y4⟩, x0, x1, x2, x3, x4⟩ := box55 hbl
              by_cases hlt : k < a.events.length
              · have hlt2 : k < b.events.length := by have := HLM.out; omega
                obtain ⟨b1, o1, q1, he, _, _, hc1, hc2⟩ := (HL1.out.keep (bz_below hbl) HB.out).get k hlt
                obtain ⟨rfl, -, rfl⟩ : a1 = some ⟨b1, o1, none⟩ ∧ a.events.length = a.events.length ∧ c1 = q1 := by injection he with e1 e2 e3; exact ⟨e1, e2, e3⟩
                clear he
                obtain ⟨b2, o2, q2, he, _, _, hd1, hd2⟩ := (HL2.out.keep (bz_below hbl) HB.out).get k hlt2
                obtain ⟨rfl, -, rfl⟩ : a2 = some ⟨b2, o2, none⟩ ∧ b.events.length = b.events.length ∧ c2 = q2 := by injection he with e1 e2 e3; exact ⟨e1, e2, e3⟩
                clear he
                obtain ⟨y, hy⟩ : ∃ y, a.events[k] = y := ⟨_, rfl⟩
                obtain ⟨z, hz⟩ : ∃ y, b.events[k] = y := ⟨_, rfl⟩
                rw [hy] at hc1 hc2
                rw [hz] at hd1 hd2
                have HY := Lib.hid hy
                have HZ := Lib.hid hz
                clear hy hz
                have i1 : (0 : Int) ≤ (k : Int) := by omega
                have i2 : (k : Int) < (a.events.length : Int) := by omega
                have i3 : (k : Int) < (b.events.length : Int) := by omega
                obtain ⟨s1, hs1⟩ : ∃ t, (y.kind.toList == z.kind.toList) = t := ⟨_, rfl⟩
                obtain ⟨s2, hs2⟩ : ∃ t, (y.data.toList == z.data.toList) = t := ⟨_, rfl⟩
                cases s1 with
                | false =>
                  obtain rfl : q = false := by
                    rw [Bool.eq_false_iff]
                    intro e
                    have hlm := HQ.out.1 e
                    subst hlm
                    rw [← HY.out, ← HZ.out] at hs1
                    simp at hs1
                  go_wp2_with fail
                  go_quiet (fail)
                  go_wp2_with fail
                  go_ret
                  exact ⟨rfl, below_drewN (bz_below hbl) _⟩
                | true =>
                  cases s2 with
                  | false =>
                    obtain rfl : q = false := by
                      rw [Bool.eq_false_iff]
                      intro e
                      have hlm := HQ.out.1 e
                      subst hlm
                      rw [← HY.out, ← HZ.out] at hs2
                      simp at hs2
                    go_wp2_with fail
                    go_quiet (fail)
                    go_wp2_with fail
                    go_ret
                    exact ⟨rfl, below_drewN (bz_below hbl) _⟩
                  | true =>
                    have heq : y = z := EV.ext' (bytes_eq hs1) (bytes_eq hs2)
                    have HEQ := Lib.hid heq
                    clear heq
                    go_wp2_with fail
                    go_quiet (fail)
                    go_wp2_with fail
                    go_roundw
                    case rel =>
                      refine ⟨k + 1, by omega, by go_num, fun i hi hj hik => ?_, below_drewN hbl _⟩
                      by_cases e : i = k
                      · subst e
                        rw [HY.out, HZ.out]
                        exact HEQ.out
                      · exact Hno.out i hi hj (by omega)
                    case measure => simp [intOf]; omega
              · have g2 : ¬ ((k : Int) < (a.events.length : Int)) := by omega
                obtain rfl : q = true := HALL.out.2 (list_eq HLM.out (fun i hi hj => Hno.out i hi hj (by omega)))
                go_wp2_with fail
                go_ret
                exact ⟨rfl, bz_below hbl⟩
          · have g : ((a.events.length : Int) != (b.events.length : Int)) = true := by simp; omega
            obtain rfl : q = false := by
              rw [Bool.eq_false_iff]
              exact fun e => hl (by rw [HALL.out.1 e])
            go_enter Tryd.func20, Tryd.ntmps20
            go_wp2_with fail
            go_ret
            exact ⟨rfl, bz_below BZ0.out⟩

end Go.Proofs.YtcgolhaiciffeaaDoor
