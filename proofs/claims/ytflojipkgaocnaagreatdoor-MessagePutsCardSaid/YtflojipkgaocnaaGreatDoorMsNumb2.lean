/-
  The walks of slices.ContainsFunc over numbers and marks, as parts asks. Printed by gen_mscont.py of this claim's writer.
-/
import Derived.Test.YtflojipkgaocnaaGreatDoorMsNumb
namespace Go.Proofs.YtflojipkgaocnaaGreatDoor
open Go.RowKit
set_option linter.unusedSimpArgs false
set_option linter.unusedVariables false

theorem clo2_any (n : Int) (b : Bool) (hb : (fun x => !numM x) n = b) (w : World) :
    Calls Tryz.prog 39 #[.int .i64 n] w fun r w' => r = .returned (.bool b) ∧ Below w.heap.size w w' := by
  have C := Lib.hid (numM_any n _ rfl)
  have Hb := Lib.hid hb
  clear hb
  go_enter Tryz.func39, Tryz.ntmps39
  go_wp2_with fail
  refine (C.out _).mono ?_
  rintro r w1 ⟨rfl, rfl⟩
  go_wp2_with fail
  go_ret
  exact ⟨ret_bool Hb.out, Below.refl _ _⟩

set_option maxRecDepth 100000 in
set_option maxHeartbeats 1600000 in
theorem idxJ_any (B : Nat) (v : Value) (l : List Int) (w : World) (h : IsNums B w v l) (hB : B ≤ w.heap.size) :
    Calls Tryz.prog 38 #[v, .func (.func 39) #[] #[]] w fun r w' => ∃ n : Int, r = .returned (.int .i64 n) ∧ (0 ≤ n ↔ l.any (fun x => !numM x) = true) ∧ Below w.heap.size w w' := by
  have H := Lib.hid h
  obtain ⟨a, cap, rfl⟩ := h.form
  have hmax : l.length ≤ 9223372036854775807 := H.out.le
  clear h
  go_enter Tryz.func38, Tryz.ntmps38
  go_wp2_with fail
  go_loopw [4, 5, 8] (fun _ _ t8 wr => ∃ k : Nat, k ≤ l.length ∧ t8 = .int .i64 k ∧ (∀ i, (hi : i < l.length) → i < k → (fun x => !numM x) l[i] = false) ∧ Below w.heap.size w wr) (fun _ _ t8 _ => l.length - (intOf t8).toNat)
  case atStart => exact ⟨0, Nat.zero_le _, rfl, fun i _ h => absurd h (by omega), Below.refl _ _⟩
  case round =>
    obtain ⟨k, hk, rfl, hno, hbl⟩ := hrel
    have Hno := Lib.hid hno
    clear hno
    by_cases hlt : k < l.length
    · obtain ⟨b, off, cap', he, hblk, _, hc1⟩ := (H.out.keep hbl hB).at1 k hlt
      obtain ⟨rfl, -, rfl⟩ : a = some ⟨b, off, none⟩ ∧ l.length = l.length ∧ cap = cap' := by injection he with e1 e2 e3; exact ⟨e1, e2, e3⟩
      clear he
      obtain ⟨y, hy⟩ : ∃ y, l[k] = y := ⟨_, rfl⟩
      rw [hy] at hc1
      have i1 : (0 : Int) ≤ (k : Int) := by omega
      have i2 : (k : Int) < (l.length : Int) := by omega
      obtain ⟨q, hq⟩ : ∃ q, (fun x => !numM x) y = q := ⟨_, rfl⟩
      have C := Lib.hid (clo2_any y q hq wr)
      have Hy := Lib.hid hy
      have Hq := Lib.hid hq
      clear hy hq
      cases q with
      | true =>
        go_wp2_with fail
        refine C.out.mono ?_
        rintro r w1 ⟨rfl, hb1⟩
        go_wp2_with fail
        go_ret
        refine ⟨k, rfl, ⟨fun _ => by simp only [List.any_eq_true]; exact ⟨y, Hy.out ▸ List.getElem_mem hlt, Hq.out⟩, fun _ => by omega⟩, bstep hbl hb1⟩
      | false =>
        go_wp2_with fail
        refine C.out.mono ?_
        rintro r w1 ⟨rfl, hb1⟩
        go_wp2_with fail
        go_roundw
        case rel =>
          refine ⟨k + 1, by omega, by go_num, fun i hi hik => ?_, bstep hbl hb1⟩
          by_cases e : i = k
          · subst e
            rw [Hy.out]
            exact Hq.out
          · exact Hno.out i hi (by omega)
        case measure => simp [intOf]; omega
    · have g : ¬ ((k : Int) < (l.length : Int)) := by omega
      go_wp2_with fail
      go_ret
      refine ⟨-1, rfl, ⟨fun h => absurd h (by omega), fun h => ?_⟩, hbl⟩
      have h' : ∃ x, x ∈ l ∧ numM x = false := by simpa using h
      obtain ⟨x, hx, hw⟩ := h'
      obtain ⟨i, hi, rfl⟩ := List.getElem_of_mem hx
      have := Hno.out i hi (by omega)
      simp only [hw] at this
      cases this

set_option maxHeartbeats 1600000 in
theorem conJ_any (B : Nat) (v : Value) (l : List Int) (b : Bool) (hb : l.any (fun x => !numM x) = b) (w : World) (h : IsNums B w v l) (hB : B ≤ w.heap.size) :
    Calls Tryz.prog 22 #[v, .func (.func 39) #[] #[]] w fun r w' => r = .returned (.bool b) ∧ Below w.heap.size w w' := by
  have C := Lib.hid (idxJ_any B v l w h hB)
  rw [hb] at C
  clear hb
  go_enter Tryz.func22, Tryz.ntmps22
  go_wp2_with fail
  refine C.out.mono ?_
  rintro r w1 ⟨n, rfl, hn, hb1⟩
  have Hn := Lib.hid hn
  clear hn
  go_wp2_with fail
  go_ret
  refine ⟨ret_bool ?_, hb1⟩
  rw [Bool.eq_iff_iff, decide_eq_true_eq]
  exact Hn.out

theorem clo3_any (x : Int × Int) (b : Bool) (hb : (fun x => !okM2 x) x = b) (w : World) :
    Calls Tryz.prog 41 #[.agg #[.int .i64 x.1, .int .i64 x.2]] w fun r w' => r = .returned (.bool b) ∧ Below w.heap.size w w' := by
  obtain ⟨q1, hq1⟩ : ∃ q, numM x.1 = q := ⟨_, rfl⟩
  obtain ⟨q2, hq2⟩ : ∃ q, numM x.2 = q := ⟨_, rfl⟩
  have C1 := Lib.hid (numM_any x.1 q1 hq1)
  have C2 := Lib.hid (numM_any x.2 q2 hq2)
  have hb' : (!(q1 && q2)) = b := by rw [← hb, ← hq1, ← hq2]; rfl
  have Hb := Lib.hid hb'
  have hb0 : Below w.heap.size w (w.alloc (.cells #[.int .i64 x.1, .int .i64 x.2] 87)) := (Below.refl _ _).alloc (Nat.le_refl _) _
  clear hb hb' hq1 hq2
  cases q1 with
  | false =>
    go_enter Tryz.func41, Tryz.ntmps41
    go_wp2_with fail
    refine (C1.out _).mono ?_
    rintro r w1 ⟨rfl, rfl⟩
    go_wp2_with fail
    go_ret
    exact ⟨ret_bool (by rw [← Hb.out]; rfl), hb0⟩
  | true =>
    go_enter Tryz.func41, Tryz.ntmps41
    go_wp2_with fail
    refine (C1.out _).mono ?_
    rintro r w1 ⟨rfl, rfl⟩
    go_wp2_with fail
    refine (C2.out _).mono ?_
    rintro r w2 ⟨rfl, rfl⟩
    go_wp2_with fail
    go_ret
    exact ⟨ret_bool (by rw [← Hb.out]; simp), hb0⟩

set_option maxRecDepth 100000 in
set_option maxHeartbeats 1600000 in
theorem idxM_any (B : Nat) (v : Value) (l : List (Int × Int)) (w : World) (h : IsMarks B w v l) (hB : B ≤ w.heap.size) :
    Calls Tryz.prog 63 #[v, .func (.func 41) #[] #[]] w fun r w' => ∃ n : Int, r = .returned (.int .i64 n) ∧ (0 ≤ n ↔ l.any (fun x => !okM2 x) = true) ∧ Below w.heap.size w w' := by
  have H := Lib.hid h
  obtain ⟨a, cap, rfl⟩ := h.form
  have hmax : l.length ≤ 9223372036854775807 := H.out.le
  clear h
  go_enter Tryz.func63, Tryz.ntmps63
  go_wp2_with fail
  go_loopw [4, 5, 8] (fun _ _ t8 wr => ∃ k : Nat, k ≤ l.length ∧ t8 = .int .i64 k ∧ (∀ i, (hi : i < l.length) → i < k → (fun x => !okM2 x) l[i] = false) ∧ Below w.heap.size w wr) (fun _ _ t8 _ => l.length - (intOf t8).toNat)
  case atStart => exact ⟨0, Nat.zero_le _, rfl, fun i _ h => absurd h (by omega), Below.refl _ _⟩
  case round =>
    obtain ⟨k, hk, rfl, hno, hbl⟩ := hrel
    have Hno := Lib.hid hno
    clear hno
    by_cases hlt : k < l.length
    · obtain ⟨b, off, cap', he, hblk, _, hc1, hc2⟩ := (H.out.keep hbl hB).at2 k hlt
      obtain ⟨rfl, -, rfl⟩ : a = some ⟨b, off, none⟩ ∧ l.length = l.length ∧ cap = cap' := by injection he with e1 e2 e3; exact ⟨e1, e2, e3⟩
      clear he
      obtain ⟨y, hy⟩ : ∃ y, l[k] = y := ⟨_, rfl⟩
      rw [hy] at hc1 hc2
      have i1 : (0 : Int) ≤ (k : Int) := by omega
      have i2 : (k : Int) < (l.length : Int) := by omega
      obtain ⟨q, hq⟩ : ∃ q, (fun x => !okM2 x) y = q := ⟨_, rfl⟩
      have C := Lib.hid (clo3_any y q hq wr)
      have Hy := Lib.hid hy
      have Hq := Lib.hid hq
      clear hy hq
      cases q with
      | true =>
        go_wp2_with fail
        refine C.out.mono ?_
        rintro r w1 ⟨rfl, hb1⟩
        go_wp2_with fail
        go_ret
        refine ⟨k, rfl, ⟨fun _ => by simp only [List.any_eq_true]; exact ⟨y, Hy.out ▸ List.getElem_mem hlt, Hq.out⟩, fun _ => by omega⟩, bstep hbl hb1⟩
      | false =>
        go_wp2_with fail
        refine C.out.mono ?_
        rintro r w1 ⟨rfl, hb1⟩
        go_wp2_with fail
        go_roundw
        case rel =>
          refine ⟨k + 1, by omega, by go_num, fun i hi hik => ?_, bstep hbl hb1⟩
          by_cases e : i = k
          · subst e
            rw [Hy.out]
            exact Hq.out
          · exact Hno.out i hi (by omega)
        case measure => simp [intOf]; omega
    · have g : ¬ ((k : Int) < (l.length : Int)) := by omega
      go_wp2_with fail
      go_ret
      refine ⟨-1, rfl, ⟨fun h => absurd h (by omega), fun h => ?_⟩, hbl⟩
      have h' : ∃ x, x ∈ l ∧ okM2 x = false := by simpa using h
      obtain ⟨x, hx, hw⟩ := h'
      obtain ⟨i, hi, rfl⟩ := List.getElem_of_mem hx
      have := Hno.out i hi (by omega)
      simp only [hw] at this
      cases this

set_option maxHeartbeats 1600000 in
theorem conM_any (B : Nat) (v : Value) (l : List (Int × Int)) (b : Bool) (hb : l.any (fun x => !okM2 x) = b) (w : World) (h : IsMarks B w v l) (hB : B ≤ w.heap.size) :
    Calls Tryz.prog 40 #[v, .func (.func 41) #[] #[]] w fun r w' => r = .returned (.bool b) ∧ Below w.heap.size w w' := by
  have C := Lib.hid (idxM_any B v l w h hB)
  rw [hb] at C
  clear hb
  go_enter Tryz.func40, Tryz.ntmps40
  go_wp2_with fail
  refine C.out.mono ?_
  rintro r w1 ⟨n, rfl, hn, hb1⟩
  have Hn := Lib.hid hn
  clear hn
  go_wp2_with fail
  go_ret
  refine ⟨ret_bool ?_, hb1⟩
  rw [Bool.eq_iff_iff, decide_eq_true_eq]
  exact Hn.out
end Go.Proofs.YtflojipkgaocnaaGreatDoor
