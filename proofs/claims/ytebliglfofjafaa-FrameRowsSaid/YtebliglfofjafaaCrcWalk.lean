/-
  The walks over package crc and its reference: each function once.
-/
import Derived.Test.YtebliglfofjafaaProg
import Derived.Test.YtebliglfofjafaaCrcBits
import Derived.WalkKit
import Derived.WalkSpells
import Derived.WalkLawsBesides
import Derived.Lib.Hide
namespace Go.Proofs.Ytebliglfofjafaa
open Go.RowKit

set_option maxHeartbeats 400000 in
theorem table_any (w : World) :
    Calls Try.prog 30 #[] w fun e w' => e = .returned (.pointer (some ⟨w.heap.size, 0, none⟩)) ∧
      (∀ i : Nat, i < 16 → w'.cell? ⟨w.heap.size, i, none⟩ = some (.int .u32 (nib i))) ∧ w'.heap.size = w.heap.size + 1 ∧ Below w.heap.size w w' := by
  go_enter Try.func30, Try.ntmps30
  go_wp2
  go_loopw [2,3,4] (fun t2 t3 t4 wr => ∃ k : Nat, k ≤ 16 ∧ t4 = .int .i64 k ∧ ∃ cs : Array Value, cs.size = 16 ∧ (∀ i : Nat, i < k → cs[i]? = some (.int .u32 (nib i))) ∧ wr = w.alloc (.cells cs 61)) (fun _ _ i _ => 16 - (intOf i).toNat)
  case atStart => exact ⟨0, by omega, rfl, _, by rfl, fun i hi => absurd hi (by omega), rfl⟩
  case round =>
    obtain ⟨k, hk, rfl, cs, hcs, hcell, rfl⟩ := hrel
    have Hcell := Lib.hid hcell
    clear hcell
    by_cases hlt : k < 16
    · go_wp2
      go_loop [3,9] (fun t3 t9 => ∃ j : Nat, j ≤ 4 ∧ t9 = .int .i64 j ∧ t3 = .int .u32 (stpN j k)) (fun _ i => 4 - (intOf i).toNat)
      case atStart => exact ⟨0, by omega, rfl, rfl⟩
      case round =>
        obtain ⟨j, hj, rfl, rfl⟩ := hrel
        obtain ⟨r, hr⟩ : ∃ r, stpN j k = r := ⟨_, rfl⟩
        have hr2 : r < 4294967296 := by rw [← hr]; exact stpN_lt (by omega)
        have Hr := Lib.hid hr
        rw [hr]
        clear hr
        by_cases hlt : j < 4
        · go_wp2
          all_goals
            go_round
            case rel =>
              refine ⟨j + 1, by omega, by go_num, ?_⟩
              rw [stpN_succ, Hr.out]
              first
                | (rw [stp_odd (u32_odd hr2 (by assumption)), u32_poly r hr2]; done)
                | (rw [stp_of_even (u32_even hr2 (by assumption))]; go_num)
            case measure => simp [intOf]; omega
        · have hj4 : j = 4 := by omega
          have Hj := Lib.hid hj4
          clear hj4
          go_wp2
          go_roundw
          case rel =>
            refine ⟨k + 1, by omega, by go_num, _, ?_, ?_, rfl⟩
            · simpa using hcs
            · intro i hi
              rw [Array.getElem?_setIfInBounds]
              by_cases e : k = i
              · subst e
                rw [if_pos rfl, if_pos (by omega)]
                unfold nib
                rw [← Hr.out, Hj.out]
              · rw [if_neg e]
                exact Hcell.out i (by omega)
          case measure => simp [intOf]; omega
    · have hk16 : k = 16 := by omega
      subst hk16
      go_wp2
      go_ret
      refine ⟨rfl, ?_, by simp, (Below.refl _ _).alloc (Nat.le_refl _) _⟩
      intro i hi
      rw [World.cell?_alloc_new]
      exact Hcell.out i hi

set_option maxHeartbeats 400000 in
theorem refUpdate_any (c : Nat) (s : ByteArray) (w : World) (hc : c < 4294967296) (hs : s.size ≤ maxLen) :
    Calls Try.prog 31 #[.int .u32 c, .string s] w fun e w' => e = .returned (.int .u32 (crcU c s.data.toList)) ∧ w = w' := by
  unfold maxLen at hs
  go_enter Try.func31, Try.ntmps31
  go_wp2
  go_loop [5, 6] (fun t5 t6 => ∃ k : Nat, k ≤ s.size ∧ t6 = .int .i64 k ∧ t5 = .int .u32 (reg (4294967295 - c) (s.data.toList.take k))) (fun _ i => s.size - (intOf i).toNat)
  case atStart => exact ⟨0, Nat.zero_le _, rfl, by rw [u32_not c hc]; rfl⟩
  case round =>
    obtain ⟨k, hk, rfl, rfl⟩ := hrel
    obtain ⟨r, hr⟩ : ∃ r, reg (4294967295 - c) (s.data.toList.take k) = r := ⟨_, rfl⟩
    have hr2 : r < 4294967296 := by rw [← hr]; exact reg_lt (by omega) _
    have Hr := Lib.hid hr
    rw [hr]
    clear hr
    by_cases hlt : k < s.size
    · have hb : r ^^^ s[k].toNat < 4294967296 := Nat.xor_lt_two_pow (n := 32) hr2 (by have := s[k].toNat_lt; omega)
      go_wp2
      go_loop [5,8,7] (fun t5 _ t7 => ∃ j : Nat, j ≤ 8 ∧ t7 = .int .i64 j ∧ t5 = .int .u32 (stpN j (r ^^^ s[k].toNat))) (fun _ _ i => 8 - (intOf i).toNat)
      case atStart => exact ⟨0, by omega, rfl, by rw [u32_byte r s[k] hr2]; rfl⟩
      case round =>
        obtain ⟨j, hj, rfl, rfl⟩ := hrel
        obtain ⟨q, hq⟩ : ∃ q, stpN j (r ^^^ s[k].toNat) = q := ⟨_, rfl⟩
        have hq2 : q < 4294967296 := by rw [← hq]; exact stpN_lt hb
        have Hq := Lib.hid hq
        rw [hq]
        clear hq
        by_cases hlt8 : j < 8
        · go_wp2
          all_goals
            go_round
            case rel =>
              refine ⟨j + 1, by omega, by go_num, ?_⟩
              rw [stpN_succ, Hq.out]
              first
                | (rw [stp_odd (u32_odd hq2 (by assumption)), u32_poly q hq2]; done)
                | (rw [stp_of_even (u32_even hq2 (by assumption))]; go_num)
            case measure => simp [intOf]; omega
        · have hj8 : j = 8 := by omega
          have Hj := Lib.hid hj8
          clear hj8
          go_wp2
          go_round
          case rel =>
            refine ⟨k + 1, by omega, by go_num, ?_⟩
            rw [List.take_succ_eq_append_getElem (by simpa using hlt), reg_snoc, Hr.out, ← Hq.out, Hj.out]
            rfl
          case measure => simp [intOf]; omega
    · have hk2 : k = s.size := by omega
      have Hk := Lib.hid hk2
      clear hk2
      go_wp2
      go_ret
      refine ⟨?_, rfl⟩
      rw [u32_not r hr2, ← Hr.out, Hk.out, List.take_of_length_le (by simp)]
      rfl

theorem refSum_any (s : ByteArray) (w : World) (hs : s.size ≤ maxLen) :
    Calls Try.prog 24 #[.string s] w fun e w' => e = .returned (.int .u32 (crcU 0 s.data.toList)) ∧ w = w' := by
  go_enter Try.func24, Try.ntmps24
  go_wp2_with (go_at_call 31; refine (refUpdate_any 0 _ _ (by omega) hs).mono ?_; rintro e w' ⟨rfl, rfl⟩)
  go_ret
  exact ⟨rfl, rfl⟩

/-- '[]byte(s)': where it lies, and that its cells are the bytes. -/
theorem conv_bytes {P : Program} (w : World) (src dst e : TypeId) (s : ByteArray) (hs : P.underlying src = some .string) (hd : P.underlying dst = some (.slice e)) (he : P.underlying e = some (.int .u8)) :
    ∃ (cap : Nat) (C : Array Value), (∀ j, (h : j < s.size) → C[j]? = some (.int .u8 (s[j].toNat : Int))) ∧
      (convert src dst (.string s)).run P w = .ok (.slice (some ⟨w.heap.size, 0, none⟩) s.size cap) (w.drew.alloc (.cells C e (C.size, C.size + 1))) :=
  ⟨_, _, fun j h => bytesRow_at s _ j (by exact h), run_bytes_of_string w src dst e s hs hd he⟩

set_option maxHeartbeats 400000 in
theorem update_any (c : Nat) (s : ByteArray) (w : World) (hc : c < 4294967296) (hs : s.size ≤ maxLen) :
    Calls Try.prog 21 #[.int .u32 c, .string s] w fun e w' => e = .returned (.int .u32 (crcU c s.data.toList)) ∧ Below w.heap.size w w' := by
  unfold maxLen at hs
  go_enter Try.func21, Try.ntmps21
  go_wp2_with (go_at_call 30; refine (table_any _).mono ?_; rintro e w1 ⟨rfl, ht, hz, hb⟩; have Ht := Lib.hid ht; clear ht; have Hz := Lib.hid hz; clear hz; obtain ⟨cap, C, hC, hconv⟩ := conv_bytes (P := Try.prog) w1 9 38 5 s Try.underlying9 Try.underlying38 Try.underlying5; have HC := Lib.hid hC; clear hC)
  go_loop [6, 8, 15] (fun t6 _ t15 => ∃ k : Nat, k ≤ s.size ∧ t15 = .int .i64 k ∧ t6 = .int .u32 (reg (4294967295 - c) (s.data.toList.take k))) (fun _ _ i => s.size - (intOf i).toNat)
  case atStart => exact ⟨0, Nat.zero_le _, rfl, by rw [u32_not c hc]; rfl⟩
  case round =>
    clear hconv
    obtain ⟨k, hk, rfl, rfl⟩ := hrel
    obtain ⟨r, hr⟩ : ∃ r, reg (4294967295 - c) (s.data.toList.take k) = r := ⟨_, rfl⟩
    have hr2 : r < 4294967296 := by rw [← hr]; exact reg_lt (by omega) _
    have Hr := Lib.hid hr
    rw [hr]
    clear hr
    by_cases hlt : k < s.size
    · have hcell : (w1.alloc (.cells C 5 (C.size, C.size + 1))).cell? ⟨w1.heap.size, k, none⟩ = some (.int .u8 (s[k].toNat : Int)) := by
        rw [World.cell?_alloc_mark]; exact HC.out k hlt
      have hx : s[k].toNat < 256 := s[k].toNat_lt
      obtain ⟨x, hxe⟩ : ∃ x, s[k].toNat = x := ⟨_, rfl⟩
      rw [hxe] at hcell hx
      have Hx := Lib.hid hxe
      clear hxe
      have e1 := u8_nib r x hx
      have l1 : (r ^^^ x) % 16 < 16 := Nat.mod_lt _ (by omega)
      have c1 : (w1.alloc (.cells C 5 (C.size, C.size + 1))).cell? ⟨w.heap.size, (r ^^^ x) % 16, none⟩ = some (.int .u32 (nib ((r ^^^ x) % 16))) := by
        rw [World.cell?_alloc_lt _ _ _ (by rw [Hz.out]; simp)]; exact Ht.out _ l1
      have f1 := u32_half ((r ^^^ x) % 16) r l1 hr2
      have q1 : half r x = nib ((r ^^^ x) % 16) ^^^ r / 16 := rfl
      rw [← q1] at f1
      have l2 : half r x < 4294967296 := half_lt hr2
      have e2 := u8_nib (half r x) (x / 16) (by omega)
      rw [show ((x / 16 : Nat) : Int) = (x : Int) / 16 by omega] at e2
      have l3 : (half r x ^^^ x / 16) % 16 < 16 := Nat.mod_lt _ (by omega)
      have c2 : (w1.alloc (.cells C 5 (C.size, C.size + 1))).cell? ⟨w.heap.size, (half r x ^^^ x / 16) % 16, none⟩ = some (.int .u32 (nib ((half r x ^^^ x / 16) % 16))) := by
        rw [World.cell?_alloc_lt _ _ _ (by rw [Hz.out]; simp)]; exact Ht.out _ l3
      have f2 := u32_half ((half r x ^^^ x / 16) % 16) (half r x) l3 l2
      have q2 : half (half r x) (x / 16) = nib ((half r x ^^^ x / 16) % 16) ^^^ half r x / 16 := rfl
      rw [← q2] at f2
      have q3 : half (half r x) (x / 16) = byteR r x := byteT_eq hx r
      clear q1 q2
      have Hq3 := Lib.hid q3
      clear q3
      generalize (r ^^^ x) % 16 = n1 at e1 l1 c1 f1
      generalize half r x = r1 at e2 l2 l3 c2 f1 f2 Hq3
      generalize (r1 ^^^ x / 16) % 16 = n2 at e2 l3 c2 f2
      generalize half r1 (x / 16) = r2 at f2 Hq3
      go_wp2
      go_round
      case rel =>
        refine ⟨k + 1, by omega, by go_num, ?_⟩
        rw [List.take_succ_eq_append_getElem (by simpa using hlt), reg_snoc, Hr.out, Hq3.out, ← Hx.out]
        rfl
      case measure => simp [intOf]; omega
    · have hk2 : k = s.size := by omega
      have Hk := Lib.hid hk2
      clear hk2
      go_wp2
      go_ret
      refine ⟨?_, (hb.drew).alloc hb.size _⟩
      rw [u32_not r hr2, ← Hr.out, Hk.out, List.take_of_length_le (by simp)]
      rfl

theorem sum_any (s : ByteArray) (w : World) (hs : s.size ≤ maxLen) :
    Calls Try.prog 22 #[.string s] w fun e w' => e = .returned (.int .u32 (crcU 0 s.data.toList)) ∧ Below w.heap.size w w' := by
  go_enter Try.func22, Try.ntmps22
  go_wp2_with (go_at_call 21; refine (update_any 0 _ _ (by omega) hs).mono ?_; rintro e w' ⟨rfl, hb⟩)
  go_ret
  exact ⟨rfl, hb⟩
end Go.Proofs.Ytebliglfofjafaa
