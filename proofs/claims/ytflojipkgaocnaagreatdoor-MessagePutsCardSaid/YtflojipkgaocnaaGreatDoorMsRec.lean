/-
  The walks of record.Right and of slices.ContainsFunc over entries. Printed by gen_mscont.py of this claim's writer.
-/
import Derived.Test.YtflojipkgaocnaaGreatDoorMsData
namespace Go.Proofs.YtflojipkgaocnaaGreatDoor
open Go.RowKit
set_option linter.unusedSimpArgs false
set_option linter.unusedVariables false

set_option maxRecDepth 100000 in
set_option maxHeartbeats 3200000 in
theorem rightR_any (B : Nat) (v : Value) (e : EN) (c : Bool) (hc : rightR e = c) (w : World) (h : IsEntry B w v e) (hB : B ≤ w.heap.size) (hT : Tabs w) :
    Calls Tryz.prog 66 #[v] w fun r w' => r = .returned (.bool c) ∧ Below w.heap.size w w' := by
  obtain ⟨lv, rfl, hl⟩ := h
  have HL := Lib.hid hl
  have HT := Lib.hid hT
  obtain ⟨ea, ec, rfl⟩ := hl.form
  have hb0 : Below w.heap.size w (w.alloc (.cells #[.int .i64 e.pos, .int .i64 e.epoch, .string e.b.stream, .int .i64 e.b.expect, .int .i64 e.b.session, .int .i64 e.b.seq, .slice ea e.b.events.length ec] 53)) := (Below.refl _ _).alloc (Nat.le_refl _) _
  obtain ⟨f, hf⟩ : ∃ f, fitsB e.b = f := ⟨_, rfl⟩
  have CF := Lib.hid (fits_any B _ e.b f hf _ ⟨_, rfl, HL.out.keep hb0 hB⟩ (Nat.le_trans hB hb0.size) (tabs_below HT.out hb0))
  have hi := rightR_iff e
  rw [hf] at hi
  have HI := Lib.hid hi
  clear hl hT hf hi
  by_cases h1 : 1 ≤ e.pos
  · by_cases h2 : e.pos ≤ 274877906944
    · by_cases h3 : 1 ≤ e.epoch
      · by_cases h4 : e.epoch ≤ 274877906944
        · by_cases h5 : f = 0
          · obtain rfl : true = c := by rw [← hc]; exact (HI.out.2 ⟨⟨h1, h2⟩, ⟨h3, h4⟩, h5⟩).symm
            subst h5
            clear hc
            go_enter Tryz.func66, Tryz.ntmps66
            go_wp2_with fail
            refine CF.out.mono ?_
            rintro r w1 ⟨rfl, hb1⟩
            go_wp2_with fail
            go_ret
            exact ⟨rfl, bstep hb0 hb1⟩
          · obtain rfl : false = c := by rw [← hc]; exact (Bool.eq_false_iff.2 fun h => h5 (HI.out.1 h).2.2).symm
            have g5 : ((f : Int) == 0) = false := by rw [beq_eq_false_iff_ne]; omega
            clear hc h5
            go_enter Tryz.func66, Tryz.ntmps66
            go_wp2_with fail
            refine CF.out.mono ?_
            rintro r w1 ⟨rfl, hb1⟩
            go_wp2_with fail
            go_ret
            exact ⟨rfl, bstep hb0 hb1⟩
        · obtain rfl : false = c := by rw [← hc]; exact (Bool.eq_false_iff.2 fun h => h4 (HI.out.1 h).2.1.2).symm
          clear hc
          go_enter Tryz.func66, Tryz.ntmps66
          go_wp2_with fail
          go_ret
          exact ⟨rfl, hb0⟩
      · obtain rfl : false = c := by rw [← hc]; exact (Bool.eq_false_iff.2 fun h => h3 (HI.out.1 h).2.1.1).symm
        clear hc
        go_enter Tryz.func66, Tryz.ntmps66
        go_wp2_with fail
        go_ret
        exact ⟨rfl, hb0⟩
    · obtain rfl : false = c := by rw [← hc]; exact (Bool.eq_false_iff.2 fun h => h2 (HI.out.1 h).1.2).symm
      clear hc
      go_enter Tryz.func66, Tryz.ntmps66
      go_wp2_with fail
      go_ret
      exact ⟨rfl, hb0⟩
  · obtain rfl : false = c := by rw [← hc]; exact (Bool.eq_false_iff.2 fun h => h1 (HI.out.1 h).1.1).symm
    clear hc
    go_enter Tryz.func66, Tryz.ntmps66
    go_wp2_with fail
    go_ret
    exact ⟨rfl, hb0⟩

theorem clo5_any (B : Nat) (v : Value) (e : EN) (b : Bool) (hb : (fun x => !rightR x) e = b) (w : World) (h : IsEntry B w v e) (hB : B ≤ w.heap.size) (hT : Tabs w) :
    Calls Tryz.prog 65 #[v] w fun r w' => r = .returned (.bool b) ∧ Below w.heap.size w w' := by
  obtain ⟨lv, rfl, hl⟩ := h
  have HL := Lib.hid hl
  have HT := Lib.hid hT
  obtain ⟨ea, ec, rfl⟩ := hl.form
  have hb0 : Below w.heap.size w (w.alloc (.cells #[.int .i64 e.pos, .int .i64 e.epoch, .string e.b.stream, .int .i64 e.b.expect, .int .i64 e.b.session, .int .i64 e.b.seq, .slice ea e.b.events.length ec] 53)) := (Below.refl _ _).alloc (Nat.le_refl _) _
  have C := Lib.hid (rightR_any B _ e _ rfl _ ⟨_, rfl, HL.out.keep hb0 hB⟩ (Nat.le_trans hB hb0.size) (tabs_below HT.out hb0))
  have Hb := Lib.hid hb
  clear hb hl hT
  go_enter Tryz.func65, Tryz.ntmps65
  go_wp2_with fail
  refine C.out.mono ?_
  rintro r w1 ⟨rfl, hb1⟩
  go_wp2_with fail
  go_ret
  exact ⟨ret_bool Hb.out, bstep hb0 hb1⟩

set_option maxRecDepth 100000 in
set_option maxHeartbeats 1600000 in
theorem idxR_any (B : Nat) (v : Value) (l : List EN) (w : World) (h : IsEntries B w v l) (hB : B ≤ w.heap.size) (hT : Tabs w) :
    Calls Tryz.prog 81 #[v, .func (.func 65) #[] #[]] w fun r w' => ∃ n : Int, r = .returned (.int .i64 n) ∧ (0 ≤ n ↔ l.any (fun x => !rightR x) = true) ∧ Below w.heap.size w w' := by
  have H := Lib.hid h
  have HT := Lib.hid hT
  obtain ⟨a, cap, rfl⟩ := h.form
  have hmax : l.length ≤ 9223372036854775807 := H.out.le
  clear h hT
  go_enter Tryz.func81, Tryz.ntmps81
  go_wp2_with fail
  go_loopw [4, 5, 8] (fun _ _ t8 wr => ∃ k : Nat, k ≤ l.length ∧ t8 = .int .i64 k ∧ (∀ i, (hi : i < l.length) → i < k → (fun x => !rightR x) l[i] = false) ∧ Below w.heap.size w wr) (fun _ _ t8 _ => l.length - (intOf t8).toNat)
  case atStart => exact ⟨0, Nat.zero_le _, rfl, fun i _ h => absurd h (by omega), Below.refl _ _⟩
  case round =>
    obtain ⟨k, hk, rfl, hno, hbl⟩ := hrel
    have Hno := Lib.hid hno
    clear hno
    by_cases hlt : k < l.length
    · obtain ⟨b, off, cap', he, hblk, _, hc1, hc2, hc3, hc4, hc5, hc6, ea, ec, hc7, hev⟩ := (H.out.keep hbl hB).get k hlt
      obtain ⟨rfl, -, rfl⟩ : a = some ⟨b, off, none⟩ ∧ l.length = l.length ∧ cap = cap' := by injection he with e1 e2 e3; exact ⟨e1, e2, e3⟩
      clear he
      obtain ⟨y, hy⟩ : ∃ y, l[k] = y := ⟨_, rfl⟩
      rw [hy] at hc1 hc2 hc3 hc4 hc5 hc6 hc7 hev
      have i1 : (0 : Int) ≤ (k : Int) := by omega
      have i2 : (k : Int) < (l.length : Int) := by omega
      obtain ⟨q, hq⟩ : ∃ q, (fun x => !rightR x) y = q := ⟨_, rfl⟩
      have C := Lib.hid (clo5_any wr.heap.size (.agg #[.int .i64 y.pos, .int .i64 y.epoch, .string y.b.stream, .int .i64 y.b.expect, .int .i64 y.b.session, .int .i64 y.b.seq, .slice ea y.b.events.length ec]) y q hq wr ⟨_, rfl, hev.up (Nat.le_trans hB hbl.size)⟩ (Nat.le_refl _) (tabs_below HT.out hbl))
      have Hy := Lib.hid hy
      have Hq := Lib.hid hq
      clear hy hq hev
      cases q with
      | true =>
        go_wp2_with fail
        refine C.out.mono ?_
        rintro r w1 ⟨rfl, hb1⟩
        go_wp2_with fail
        go_ret
        refine ⟨k, rfl, ⟨fun _ => by simp only [List.any_eq_true]; exact ⟨y, Hy.out ▸ List.getElem_mem hlt, Hq.out⟩, fun _ => by omega⟩, bstep hbl hb1⟩
      | false =>
        go_wp2_with fail
        refine C.out.mono ?_
        rintro r w1 ⟨rfl, hb1⟩
        go_wp2_with fail
        go_roundw
        case rel =>
          refine ⟨k + 1, by omega, by go_num, fun i hi hik => ?_, bstep hbl hb1⟩
          by_cases e : i = k
          · subst e
            rw [Hy.out]
            exact Hq.out
          · exact Hno.out i hi (by omega)
        case measure => simp [intOf]; omega
    · have g : ¬ ((k : Int) < (l.length : Int)) := by omega
      go_wp2_with fail
      go_ret
      refine ⟨-1, rfl, ⟨fun h => absurd h (by omega), fun h => ?_⟩, hbl⟩
      have h' : ∃ x, x ∈ l ∧ rightR x = false := by simpa using h
      obtain ⟨x, hx, hw⟩ := h'
      obtain ⟨i, hi, rfl⟩ := List.getElem_of_mem hx
      have := Hno.out i hi (by omega)
      simp only [hw] at this
      cases this

set_option maxHeartbeats 1600000 in
theorem conR_any (B : Nat) (v : Value) (l : List EN) (b : Bool) (hb : l.any (fun x => !rightR x) = b) (w : World) (h : IsEntries B w v l) (hB : B ≤ w.heap.size) (hT : Tabs w) :
    Calls Tryz.prog 64 #[v, .func (.func 65) #[] #[]] w fun r w' => r = .returned (.bool b) ∧ Below w.heap.size w w' := by
  have C := Lib.hid (idxR_any B v l w h hB hT)
  rw [hb] at C
  clear hb
  go_enter Tryz.func64, Tryz.ntmps64
  go_wp2_with fail
  refine C.out.mono ?_
  rintro r w1 ⟨n, rfl, hn, hb1⟩
  have Hn := Lib.hid hn
  clear hn
  go_wp2_with fail
  go_ret
  refine ⟨ret_bool ?_, hb1⟩
  rw [Bool.eq_iff_iff, decide_eq_true_eq]
  exact Hn.out
end Go.Proofs.YtflojipkgaocnaaGreatDoor
