/-
  The walks of slices.ContainsFunc over events, as parts asks. Printed by gen_mscont.py of this claim's writer.
-/
import Derived.Test.YtflojipkgaocnaaGreatDoorMsData
namespace Go.Proofs.YtflojipkgaocnaaGreatDoor
open Go.RowKit
set_option linter.unusedSimpArgs false
set_option linter.unusedVariables false

theorem IsEvents.le {B : Nat} {w : World} {v : Value} {l : List EV} (h : IsEvents B w v l) : l.length ≤ 9223372036854775807 := by
  obtain ⟨_, _, he, h1, h2, _⟩ := h
  unfold maxLen at h2
  omega
theorem clo4_any (e : EV) (b : Bool) (hb : (fun x => !rightE x) e = b) (w : World) (hT : Tabs w) :
    Calls Tryz.prog 48 #[.agg #[.string e.kind, .string e.data]] w fun r w' => r = .returned (.bool b) ∧ Below w.heap.size w w' := by
  have hb0 : Below w.heap.size w (w.alloc (.cells #[.string e.kind, .string e.data] 55)) := (Below.refl _ _).alloc (Nat.le_refl _) _
  have C := Lib.hid (right_any e _ rfl _ (tabs_below hT hb0))
  have Hb := Lib.hid hb
  clear hb
  go_enter Tryz.func48, Tryz.ntmps48
  go_wp2_with fail
  refine C.out.mono ?_
  rintro r w1 ⟨rfl, hb1⟩
  go_wp2_with fail
  go_ret
  exact ⟨ret_bool Hb.out, bstep hb0 hb1⟩

set_option maxRecDepth 100000 in
set_option maxHeartbeats 1600000 in
theorem idxE_any (B : Nat) (v : Value) (l : List EV) (w : World) (h : IsEvents B w v l) (hB : B ≤ w.heap.size) (hT : Tabs w) :
    Calls Tryz.prog 73 #[v, .func (.func 48) #[] #[]] w fun r w' => ∃ n : Int, r = .returned (.int .i64 n) ∧ (0 ≤ n ↔ l.any (fun x => !rightE x) = true) ∧ Below w.heap.size w w' := by
  have H := Lib.hid h
  have HT := Lib.hid hT
  obtain ⟨a, cap, rfl⟩ := h.form
  have hmax : l.length ≤ 9223372036854775807 := H.out.le
  clear h hT
  go_enter Tryz.func73, Tryz.ntmps73
  go_wp2_with fail
  go_loopw [4, 5, 8] (fun _ _ t8 wr => ∃ k : Nat, k ≤ l.length ∧ t8 = .int .i64 k ∧ (∀ i, (hi : i < l.length) → i < k → (fun x => !rightE x) l[i] = false) ∧ Below w.heap.size w wr) (fun _ _ t8 _ => l.length - (intOf t8).toNat)
  case atStart => exact ⟨0, Nat.zero_le _, rfl, fun i _ h => absurd h (by omega), Below.refl _ _⟩
  case round =>
    obtain ⟨k, hk, rfl, hno, hbl⟩ := hrel
    have Hno := Lib.hid hno
    clear hno
    by_cases hlt : k < l.length
    · obtain ⟨b, off, cap', he, hblk, _, hc1, hc2⟩ := (H.out.keep hbl hB).get k hlt
      obtain ⟨rfl, -, rfl⟩ : a = some ⟨b, off, none⟩ ∧ l.length = l.length ∧ cap = cap' := by injection he with e1 e2 e3; exact ⟨e1, e2, e3⟩
      clear he
      obtain ⟨y, hy⟩ : ∃ y, l[k] = y := ⟨_, rfl⟩
      rw [hy] at hc1 hc2
      have i1 : (0 : Int) ≤ (k : Int) := by omega
      have i2 : (k : Int) < (l.length : Int) := by omega
      obtain ⟨q, hq⟩ : ∃ q, (fun x => !rightE x) y = q := ⟨_, rfl⟩
      have C := Lib.hid (clo4_any y q hq wr (tabs_below HT.out hbl))
      have Hy := Lib.hid hy
      have Hq := Lib.hid hq
      clear hy hq
      cases q with
      | true =>
        go_wp2_with fail
        refine C.out.mono ?_
        rintro r w1 ⟨rfl, hb1⟩
        go_wp2_with fail
        go_ret
        refine ⟨k, rfl, ⟨fun _ => by simp only [List.any_eq_true]; exact ⟨y, Hy.out ▸ List.getElem_mem hlt, Hq.out⟩, fun _ => by omega⟩, bstep hbl hb1⟩
      | false =>
        go_wp2_with fail
        refine C.out.mono ?_
        rintro r w1 ⟨rfl, hb1⟩
        go_wp2_with fail
        go_roundw
        case rel =>
          refine ⟨k + 1, by omega, by go_num, fun i hi hik => ?_, bstep hbl hb1⟩
          by_cases e : i = k
          · subst e
            rw [Hy.out]
            exact Hq.out
          · exact Hno.out i hi (by omega)
        case measure => simp [intOf]; omega
    · have g : ¬ ((k : Int) < (l.length : Int)) := by omega
      go_wp2_with fail
      go_ret
      refine ⟨-1, rfl, ⟨fun h => absurd h (by omega), fun h => ?_⟩, hbl⟩
      have h' : ∃ x, x ∈ l ∧ rightE x = false := by simpa using h
      obtain ⟨x, hx, hw⟩ := h'
      obtain ⟨i, hi, rfl⟩ := List.getElem_of_mem hx
      have := Hno.out i hi (by omega)
      simp only [hw] at this
      cases this

set_option maxHeartbeats 1600000 in
theorem conE_any (B : Nat) (v : Value) (l : List EV) (b : Bool) (hb : l.any (fun x => !rightE x) = b) (w : World) (h : IsEvents B w v l) (hB : B ≤ w.heap.size) (hT : Tabs w) :
    Calls Tryz.prog 47 #[v, .func (.func 48) #[] #[]] w fun r w' => r = .returned (.bool b) ∧ Below w.heap.size w w' := by
  have C := Lib.hid (idxE_any B v l w h hB hT)
  rw [hb] at C
  clear hb
  go_enter Tryz.func47, Tryz.ntmps47
  go_wp2_with fail
  refine C.out.mono ?_
  rintro r w1 ⟨n, rfl, hn, hb1⟩
  have Hn := Lib.hid hn
  clear hn
  go_wp2_with fail
  go_ret
  refine ⟨ret_bool ?_, hb1⟩
  rw [Bool.eq_iff_iff, decide_eq_true_eq]
  exact Hn.out
end Go.Proofs.YtflojipkgaocnaaGreatDoor
