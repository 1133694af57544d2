/-
  The walks of event.Right and event.Fits.
-/
import Derived.Test.YtflojipkgaocnaaGreatDoorEvData
namespace Go.Proofs.YtflojipkgaocnaaGreatDoor
open Go.RowKit

set_option maxHeartbeats 1600000 in
theorem right_any (e : EV) (b : Bool) (hb : rightE e = b) (w : World) (hT : Tabs w) :
    Calls Tryz.prog 49 #[.agg #[.string e.kind, .string e.data]] w fun r w' => r = .returned (.bool b) ∧ Below w.heap.size w w' := by
  have hb0 : Below w.heap.size w (w.alloc (.cells #[.string e.kind, .string e.data] 55)) := (Below.refl _ _).alloc (Nat.le_refl _) _
  obtain ⟨nb, hn⟩ : ∃ x, nameB e.kind = x := ⟨_, rfl⟩
  have C := Lib.hid (name_any e.kind nb hn _ (tabs_below hT hb0))
  by_cases h2 : e.data.size ≤ 200
  · have i2 : (e.data.size : Int) ≤ 200 := by omega
    obtain rfl : nb = b := by rw [← hb, rightE, decide_eq_true h2, hn, Bool.true_and]
    clear hb hn h2
    go_enter Tryz.func49, Tryz.ntmps49
    go_wp2_with fail
    refine C.out.mono ?_
    rintro r w1 ⟨rfl, hb1⟩
    go_wp2_with fail
    go_ret
    exact ⟨rfl, bstep hb0 hb1⟩
  · have i2 : ¬ (e.data.size : Int) ≤ 200 := by omega
    obtain rfl : false = b := by rw [← hb, rightE, decide_eq_false h2, Bool.false_and]
    clear hb hn h2
    go_enter Tryz.func49, Tryz.ntmps49
    go_wp2_with fail
    go_ret
    exact ⟨rfl, hb0⟩

theorem number_any (n : Int) (b : Bool) (hb : numB n = b) (w : World) :
    Calls Tryz.prog 82 #[.int .i64 n] w fun r w' => r = .returned (.bool b) ∧ w' = w := by
  have Hb := Lib.hid hb
  clear hb
  by_cases h1 : 1 ≤ n
  · go_enter Tryz.func82, Tryz.ntmps82
    go_wp2_with fail
    go_ret
    refine ⟨ret_bool ?_, rfl⟩
    rw [← Hb.out, numB, decide_eq_true h1, Bool.true_and]
  · go_enter Tryz.func82, Tryz.ntmps82
    go_wp2_with fail
    go_ret
    refine ⟨ret_bool ?_, rfl⟩
    rw [← Hb.out, numB, decide_eq_false (by omega), Bool.false_and]

set_option maxHeartbeats 1600000 in
theorem wrongE_any (e : EV) (b : Bool) (hb : (!rightE e) = b) (w : World) (hT : Tabs w) :
    Calls Tryz.prog 83 #[.agg #[.string e.kind, .string e.data]] w fun r w' => r = .returned (.bool b) ∧ Below w.heap.size w w' := by
  have hb0 : Below w.heap.size w (w.alloc (.cells #[.string e.kind, .string e.data] 55)) := (Below.refl _ _).alloc (Nat.le_refl _) _
  obtain ⟨nb, hn⟩ : ∃ x, rightE e = x := ⟨_, rfl⟩
  have C := Lib.hid (right_any e nb hn _ (tabs_below hT hb0))
  rw [hn] at hb
  have Hb := Lib.hid hb
  clear hb hn
  go_enter Tryz.func83, Tryz.ntmps83
  go_wp2_with fail
  refine C.out.mono ?_
  rintro r w1 ⟨rfl, hb1⟩
  go_wp2_with fail
  go_ret
  exact ⟨ret_bool Hb.out, bstep hb0 hb1⟩

set_option maxHeartbeats 1600000 in
theorem indexWrong_any (B : Nat) (v : Value) (l : List EV) (w : World) (h : IsEvents B w v l) (hB : B ≤ w.heap.size) (hT : Tabs w) :
    Calls Tryz.prog 73 #[v, .func (.func 83) #[] #[]] w fun r w' => ∃ n : Int, r = .returned (.int .i64 n) ∧ (0 ≤ n ↔ l.any (fun e => !rightE e) = true) ∧ Below w.heap.size w w' := by
  have H := Lib.hid h
  have HT := Lib.hid hT
  obtain ⟨a, cap, rfl⟩ := h.form
  have hmax : l.length ≤ 9223372036854775807 := by obtain ⟨_, _, he, h1, h2, _⟩ := H.out; unfold maxLen at h2; omega
  clear h hT
  go_enter Tryz.func73, Tryz.ntmps73
  go_wp2_with fail
  go_loopw [4, 5, 8] (fun _ _ t8 wr => ∃ k : Nat, k ≤ l.length ∧ t8 = .int .i64 k ∧ (∀ i, (hi : i < l.length) → i < k → rightE l[i] = true) ∧ Below w.heap.size w wr) (fun _ _ t8 _ => l.length - (intOf t8).toNat)
  case atStart => exact ⟨0, Nat.zero_le _, rfl, fun i _ h => absurd h (by omega), Below.refl _ _⟩
  case round =>
    obtain ⟨k, hk, rfl, hno, hbl⟩ := hrel
    have Hno := Lib.hid hno
    clear hno
    by_cases hlt : k < l.length
    · obtain ⟨b, off, cap', he, hblk, _, hc1, hc2⟩ := (H.out.keep hbl hB).get k hlt
      obtain ⟨rfl, -, rfl⟩ : a = some ⟨b, off, none⟩ ∧ l.length = l.length ∧ cap = cap' := by injection he with e1 e2 e3; exact ⟨e1, e2, e3⟩
      clear he
      obtain ⟨y, hy⟩ : ∃ y, l[k] = y := ⟨_, rfl⟩
      rw [hy] at hc1 hc2
      have i1 : (0 : Int) ≤ (k : Int) := by omega
      have i2 : (k : Int) < (l.length : Int) := by omega
      obtain ⟨q, hq⟩ : ∃ x, (!rightE y) = x := ⟨_, rfl⟩
      have C := Lib.hid (wrongE_any y q hq wr (tabs_below HT.out hbl))
      have Hy := Lib.hid hy
      have Hq := Lib.hid hq
      clear hy hq
      cases q with
      | true =>
        go_wp2_with fail
        refine C.out.mono ?_
        rintro r w1 ⟨rfl, hb1⟩
        go_wp2_with fail
        go_ret
        refine ⟨k, rfl, ⟨fun _ => by simp only [List.any_eq_true]; exact ⟨y, Hy.out ▸ List.getElem_mem hlt, Hq.out⟩, fun _ => by omega⟩, bstep hbl hb1⟩
      | false =>
        go_wp2_with fail
        refine C.out.mono ?_
        rintro r w1 ⟨rfl, hb1⟩
        go_wp2_with fail
        go_roundw
        case rel =>
          refine ⟨k + 1, by omega, by go_num, fun i hi hik => ?_, bstep hbl hb1⟩
          by_cases e : i = k
          · subst e
            rw [Hy.out]
            simpa using Hq.out
          · exact Hno.out i hi (by omega)
        case measure => simp [intOf]; omega
    · have g : ¬ ((k : Int) < (l.length : Int)) := by omega
      go_wp2_with fail
      go_ret
      refine ⟨-1, rfl, ⟨fun h => absurd h (by omega), fun h => ?_⟩, hbl⟩
      have h' : ∃ x, x ∈ l ∧ rightE x = false := by simpa using h
      obtain ⟨x, hx, hw⟩ := h'
      obtain ⟨i, hi, rfl⟩ := List.getElem_of_mem hx
      have := Hno.out i hi (by omega)
      rw [this] at hw
      cases hw

set_option maxHeartbeats 1600000 in
theorem containsWrong_any (B : Nat) (v : Value) (l : List EV) (b : Bool) (hb : l.any (fun e => !rightE e) = b) (w : World) (h : IsEvents B w v l) (hB : B ≤ w.heap.size) (hT : Tabs w) :
    Calls Tryz.prog 47 #[v, .func (.func 83) #[] #[]] w fun r w' => r = .returned (.bool b) ∧ Below w.heap.size w w' := by
  have C := Lib.hid (indexWrong_any B v l w h hB hT)
  rw [hb] at C
  clear hb
  go_enter Tryz.func47, Tryz.ntmps47
  go_wp2_with fail
  refine C.out.mono ?_
  rintro r w1 ⟨n, rfl, hn, hb1⟩
  have Hn := Lib.hid hn
  clear hn
  go_wp2_with fail
  go_ret
  refine ⟨ret_bool ?_, hb1⟩
  rw [Bool.eq_iff_iff, decide_eq_true_eq]
  exact Hn.out

/-! what is held of a batch's box -/
theorem box5 {w W : World} {a0 a1 a2 a3 a4 : Value} {t : TypeId} (hb : Below (w.heap.size + 1) (w.alloc (.cells #[a0, a1, a2, a3, a4] t)) W) :
    W.cell? ⟨w.heap.size, 0, none⟩ = some a0 ∧ W.cell? ⟨w.heap.size, 1, none⟩ = some a1 ∧ W.cell? ⟨w.heap.size, 2, none⟩ = some a2 ∧ W.cell? ⟨w.heap.size, 3, none⟩ = some a3 ∧ W.cell? ⟨w.heap.size, 4, none⟩ = some a4 :=
  ⟨(hb.cell (p := ⟨w.heap.size, 0, none⟩) (by simp)).trans (by simp), (hb.cell (p := ⟨w.heap.size, 1, none⟩) (by simp)).trans (by simp), (hb.cell (p := ⟨w.heap.size, 2, none⟩) (by simp)).trans (by simp),
    (hb.cell (p := ⟨w.heap.size, 3, none⟩) (by simp)).trans (by simp), (hb.cell (p := ⟨w.heap.size, 4, none⟩) (by simp)).trans (by simp)⟩
theorem bx_more {w W W' : World} {o : Obj} (h : Below (w.heap.size + 1) (w.alloc o) W) (k : Below W.heap.size W W') : Below (w.heap.size + 1) (w.alloc o) W' := h.trans (k.mono (by have := h.size; simpa using this))
theorem bx_alloc {w W : World} {o : Obj} (h : Below (w.heap.size + 1) (w.alloc o) W) (o' : Obj) : Below (w.heap.size + 1) (w.alloc o) (W.alloc o') := h.alloc (by have := h.size; simpa using this) o'
theorem bx_new {w : World} (o : Obj) : Below (w.heap.size + 1) (w.alloc o) (w.alloc o) := Below.refl _ _
theorem bx_lt {w W : World} {o : Obj} (h : Below (w.heap.size + 1) (w.alloc o) W) : w.heap.size < W.heap.size := by have := h.size; rw [World.size_alloc] at this; omega
theorem bx_below {w W : World} {o : Obj} (h : Below (w.heap.size + 1) (w.alloc o) W) : Below w.heap.size w W := ((Below.refl _ _).alloc (Nat.le_refl _) _).trans (h.mono (by omega))

set_option maxRecDepth 100000 in
set_option maxHeartbeats 3200000 in
theorem fits_any (B : Nat) (v : Value) (b : BW) (c : Nat) (hc : fitsB b = c) (w : World) (h : IsBatch B w v b) (hB : B ≤ w.heap.size) (hT : Tabs w) :
    Calls Tryz.prog 68 #[v] w fun r w' => r = .returned (.int .i64 c) ∧ Below w.heap.size w w' := by
  obtain ⟨lv, rfl, hl⟩ := h
  have HL := Lib.hid hl
  have HT := Lib.hid hT
  obtain ⟨a, cap, rfl⟩ := hl.form
  have hmax : b.events.length ≤ 9223372036854775807 := by obtain ⟨_, _, he, h1, h2, _⟩ := HL.out; unfold maxLen at h2; omega
  obtain ⟨nb, hn⟩ : ∃ x, nameB b.stream = x := ⟨_, rfl⟩
  obtain ⟨q1, hq1⟩ : ∃ x, numB b.session = x := ⟨_, rfl⟩
  obtain ⟨q2, hq2⟩ : ∃ x, numB b.seq = x := ⟨_, rfl⟩
  obtain ⟨q3, hq3⟩ : ∃ x, b.events.any (fun e => !rightE e) = x := ⟨_, rfl⟩
  have C1 := Lib.hid (fun w1 (hb1 : Below w.heap.size w w1) => name_any b.stream nb hn w1 (tabs_below HT.out hb1))
  have C2 := Lib.hid (number_any b.session q1 hq1)
  have C3 := Lib.hid (number_any b.seq q2 hq2)
  have C4 := Lib.hid (fun w1 (hb1 : Below w.heap.size w w1) => containsWrong_any B _ b.events q3 hq3 w1 (HL.out.keep hb1 hB) (Nat.le_trans hB hb1.size) (tabs_below HT.out hb1))
  have hw : wrongB b ↔ (nb = false ∨ b.expect < -1 ∨ 274877906944 < b.expect ∨ q1 = false ∨ q2 = false ∨ b.events.length = 0) := by rw [wrongB, hn, hq1, hq2]
  have hf : fitsB b = if (nb = false ∨ b.expect < -1 ∨ 274877906944 < b.expect ∨ q1 = false ∨ q2 = false ∨ b.events.length = 0) then 1 else if 8 < b.events.length then 4 else if q3 = true then 1 else 0 := by
    rw [fitsB, hq3]
    simp only [hw]
  rw [hf] at hc
  have Hc := Lib.hid hc
  have bx0 := bx_new (w := w) (.cells #[.string b.stream, .int .i64 b.expect, .int .i64 b.session, .int .i64 b.seq, .slice a b.events.length cap] 28)
  clear hl hT hn hq1 hq2 hq3 hw hf hc
  cases nb with
  | false =>
    obtain rfl : 1 = c := by rw [← Hc.out, if_pos (.inl rfl)]
    go_enter Tryz.func68, Tryz.ntmps68
    go_wp2_with fail
    refine (C1.out _ (bx_below bx0)).mono ?_
    rintro r w1 ⟨rfl, hb1⟩
    have bx1 := bx_more bx0 hb1
    obtain ⟨y0, y1, y2, y3, y4⟩ := box5 bx1
    go_wp2_with fail
    go_ret
    exact ⟨rfl, bx_below bx1⟩
  | true =>
    by_cases e1 : b.expect < -1
    · obtain rfl : 1 = c := by rw [← Hc.out, if_pos (.inr (.inl e1))]
      go_enter Tryz.func68, Tryz.ntmps68
      go_wp2_with fail
      refine (C1.out _ (bx_below bx0)).mono ?_
      rintro r w1 ⟨rfl, hb1⟩
      have bx1 := bx_more bx0 hb1
      obtain ⟨y0, y1, y2, y3, y4⟩ := box5 bx1
      go_wp2_with fail
      go_ret
      exact ⟨rfl, bx_below bx1⟩
    · by_cases e2 : 274877906944 < b.expect
      · obtain rfl : 1 = c := by rw [← Hc.out, if_pos (.inr (.inr (.inl e2)))]
        go_enter Tryz.func68, Tryz.ntmps68
        go_wp2_with fail
        refine (C1.out _ (bx_below bx0)).mono ?_
        rintro r w1 ⟨rfl, hb1⟩
        have bx1 := bx_more bx0 hb1
        obtain ⟨y0, y1, y2, y3, y4⟩ := box5 bx1
        go_wp2_with fail
        go_ret
        exact ⟨rfl, bx_below bx1⟩
      · cases q1 with
        | false =>
          obtain rfl : 1 = c := by rw [← Hc.out, if_pos (.inr (.inr (.inr (.inl rfl))))]
          go_enter Tryz.func68, Tryz.ntmps68
          go_wp2_with fail
          refine (C1.out _ (bx_below bx0)).mono ?_
          rintro r w1 ⟨rfl, hb1⟩
          have bx1 := bx_more bx0 hb1
          obtain ⟨y0, y1, y2, y3, y4⟩ := box5 bx1
          go_wp2_with fail
          refine (C2.out _).mono ?_
          rintro r w2 ⟨rfl, rfl⟩
          go_wp2_with fail
          go_ret
          exact ⟨rfl, bx_below bx1⟩
        | true =>
          cases q2 with
          | false =>
            obtain rfl : 1 = c := by rw [← Hc.out, if_pos (.inr (.inr (.inr (.inr (.inl rfl)))))]
            go_enter Tryz.func68, Tryz.ntmps68
            go_wp2_with fail
            refine (C1.out _ (bx_below bx0)).mono ?_
            rintro r w1 ⟨rfl, hb1⟩
            have bx1 := bx_more bx0 hb1
            obtain ⟨y0, y1, y2, y3, y4⟩ := box5 bx1
            go_wp2_with fail
            refine (C2.out _).mono ?_
            rintro r w2 ⟨rfl, rfl⟩
            go_wp2_with fail
            refine (C3.out _).mono ?_
            rintro r w3 ⟨rfl, rfl⟩
            go_wp2_with fail
            go_ret
            exact ⟨rfl, bx_below bx1⟩
          | true =>
            by_cases e3 : b.events.length = 0
            · have g3 : ((b.events.length : Int) == 0) = true := by rw [e3]; rfl
              obtain rfl : 1 = c := by rw [← Hc.out, if_pos (.inr (.inr (.inr (.inr (.inr e3)))))]
              clear e3
              go_enter Tryz.func68, Tryz.ntmps68
              go_wp2_with fail
              refine (C1.out _ (bx_below bx0)).mono ?_
              rintro r w1 ⟨rfl, hb1⟩
              have bx1 := bx_more bx0 hb1
              obtain ⟨y0, y1, y2, y3, y4⟩ := box5 bx1
              go_wp2_with fail
              refine (C2.out _).mono ?_
              rintro r w2 ⟨rfl, rfl⟩
              go_wp2_with fail
              refine (C3.out _).mono ?_
              rintro r w3 ⟨rfl, rfl⟩
              go_wp2_with fail
              go_ret
              exact ⟨rfl, bx_below bx1⟩
            · have g3 : ((b.events.length : Int) == 0) = false := by rw [beq_eq_false_iff_ne]; omega
              rw [if_neg (by simp only [Bool.true_eq_false, false_or]; omega)] at Hc
              by_cases e4 : 8 < b.events.length
              · have g4 : (8 : Int) < (b.events.length : Int) := by omega
                obtain rfl : 4 = c := by rw [← Hc.out, if_pos e4]
                clear e4
                go_enter Tryz.func68, Tryz.ntmps68
                go_wp2_with fail
                refine (C1.out _ (bx_below bx0)).mono ?_
                rintro r w1 ⟨rfl, hb1⟩
                have bx1 := bx_more bx0 hb1
                obtain ⟨y0, y1, y2, y3, y4⟩ := box5 bx1
                go_wp2_with fail
                refine (C2.out _).mono ?_
                rintro r w2 ⟨rfl, rfl⟩
                go_wp2_with fail
                refine (C3.out _).mono ?_
                rintro r w3 ⟨rfl, rfl⟩
                go_wp2_with fail
                go_ret
                exact ⟨rfl, bx_below bx1⟩
              · have g4 : ¬ (8 : Int) < (b.events.length : Int) := by omega
                rw [if_neg e4] at Hc
                cases q3 with
                | true =>
                  obtain rfl : 1 = c := by rw [← Hc.out, if_pos rfl]
                  go_enter Tryz.func68, Tryz.ntmps68
                  go_wp2_with fail
                  refine (C1.out _ (bx_below bx0)).mono ?_
                  rintro r w1 ⟨rfl, hb1⟩
                  have bx1 := bx_more bx0 hb1
                  obtain ⟨y0, y1, y2, y3, y4⟩ := box5 bx1
                  go_wp2_with fail
                  refine (C2.out _).mono ?_
                  rintro r w2 ⟨rfl, rfl⟩
                  go_wp2_with fail
                  refine (C3.out _).mono ?_
                  rintro r w3 ⟨rfl, rfl⟩
                  go_wp2_with fail
                  refine (C4.out _ (bx_below bx1)).mono ?_
                  rintro r w4 ⟨rfl, hb4⟩
                  go_wp2_with fail
                  go_ret
                  exact ⟨rfl, bx_below (bx_more bx1 hb4)⟩
                | false =>
                  obtain rfl : 0 = c := by rw [← Hc.out, if_neg (by decide)]
                  go_enter Tryz.func68, Tryz.ntmps68
                  go_wp2_with fail
                  refine (C1.out _ (bx_below bx0)).mono ?_
                  rintro r w1 ⟨rfl, hb1⟩
                  have bx1 := bx_more bx0 hb1
                  obtain ⟨y0, y1, y2, y3, y4⟩ := box5 bx1
                  go_wp2_with fail
                  refine (C2.out _).mono ?_
                  rintro r w2 ⟨rfl, rfl⟩
                  go_wp2_with fail
                  refine (C3.out _).mono ?_
                  rintro r w3 ⟨rfl, rfl⟩
                  go_wp2_with fail
                  refine (C4.out _ (bx_below bx1)).mono ?_
                  rintro r w4 ⟨rfl, hb4⟩
                  go_wp2_with fail
                  go_ret
                  exact ⟨rfl, bx_below (bx_more bx1 hb4)⟩
end Go.Proofs.YtflojipkgaocnaaGreatDoor
