/-
  The walk of bucketlineref1.size: how many bytes the rune has that a text begins with, and its number. Printed by gen_evsize.py of this claim's writer.
-/
import Derived.Test.YtcgolhaiciffeaaDoorEvName
import Derived.IntWalk
namespace Go.Proofs.YtcgolhaiciffeaaDoor
open Go.RowKit

def bN (s : ByteArray) (k : Nat) : Nat := (s.get! k).toNat
theorem get_bN (s : ByteArray) : ∀ (n : Nat) (h : n < s.size), ((s[n]'h).toNat : Int) = (bN s n : Int) := fun n h => by
  unfold bN
  rw [show s.get! n = s[n]'h from by
    show s.data[n]! = s.data[n]
    exact getElem!_pos s.data n h]
theorem bN_lt (s : ByteArray) (k : Nat) : bN s k < 256 := (s.get! k).toNat_lt
/-- The rune that a text begins with: 1 and -1: none. -/
def szR (s : ByteArray) : Nat × Int := if wrongR (Utf8.decode s 0) = true then (1, -1) else ((Utf8.decode s 0).2, (Utf8.decode s 0).1)
def contN (x : Nat) : Prop := 128 ≤ x ∧ x < 192
instance (x : Nat) : Decidable (contN x) := by unfold contN; infer_instance
theorem cont_bool (x : Nat) (h : x < 256) : (x / 64 == 2) = decide (contN x) := by
  by_cases h1 : contN x
  · rw [decide_eq_true h1, beq_iff_eq]
    unfold contN at h1
    omega
  · rw [decide_eq_false h1, beq_eq_false_iff_ne]
    unfold contN at h1
    omega
set_option maxRecDepth 100000 in
theorem dec_eq (s : ByteArray) : Utf8.decode s 0 =
    if bN s 0 < 128 then (bN s 0, 1)
    else if (bN s 0 / 32 == 6) = true ∧ 1 < s.size ∧ contN (bN s 1) then (if 128 ≤ bN s 0 % 32 * 64 + bN s 1 % 64 then (bN s 0 % 32 * 64 + bN s 1 % 64, 2) else (65533, 1))
    else if (bN s 0 / 16 == 14) = true ∧ 1 < s.size ∧ contN (bN s 1) ∧ 2 < s.size ∧ contN (bN s 2) then (if 2048 ≤ bN s 0 % 16 * 4096 + bN s 1 % 64 * 64 + bN s 2 % 64 ∧ Utf8.valid ((bN s 0 % 16 * 4096 + bN s 1 % 64 * 64 + bN s 2 % 64 : Nat) : Int) = true then (bN s 0 % 16 * 4096 + bN s 1 % 64 * 64 + bN s 2 % 64, 3) else (65533, 1))
    else if (bN s 0 / 8 == 30) = true ∧ 1 < s.size ∧ contN (bN s 1) ∧ 2 < s.size ∧ contN (bN s 2) ∧ 3 < s.size ∧ contN (bN s 3) then (if 65536 ≤ bN s 0 % 8 * 262144 + bN s 1 % 64 * 4096 + bN s 2 % 64 * 64 + bN s 3 % 64 ∧ Utf8.valid ((bN s 0 % 8 * 262144 + bN s 1 % 64 * 4096 + bN s 2 % 64 * 64 + bN s 3 % 64 : Nat) : Int) = true then (bN s 0 % 8 * 262144 + bN s 1 % 64 * 4096 + bN s 2 % 64 * 64 + bN s 3 % 64, 4) else (65533, 1))
    else (65533, 1) := by
  unfold Utf8.decode
  have q0 : (s.get! 0).toNat = bN s 0 := rfl
  have q1 : (s.get! 1).toNat = bN s 1 := rfl
  have q2 : (s.get! 2).toNat = bN s 2 := rfl
  have q3 : (s.get! 3).toNat = bN s 3 := rfl
  simp only [Nat.zero_add, q0, q1, q2, q3, cont_bool _ (bN_lt s 1), cont_bool _ (bN_lt s 2), cont_bool _ (bN_lt s 3), Bool.and_eq_true, decide_eq_true_eq, Utf8.runeError, and_assoc, ge_iff_le]
theorem valid_iff (n : Nat) : Utf8.valid (n : Int) = true ↔ n < 55296 ∨ (57344 ≤ n ∧ n ≤ 1114111) := by
  unfold Utf8.valid
  simp only [Bool.or_eq_true, Bool.and_eq_true, decide_eq_true_eq]
  omega
theorem szR_of {s : ByteArray} {c n : Nat} (h : Utf8.decode s 0 = (c, n)) (hn : ¬ (c = 65533 ∧ n = 1)) : szR s = (n, (c : Int)) := by
  unfold szR wrongR
  rw [h, if_neg]
  simpa using hn
theorem wrong_err : ∀ d : Nat × Nat, d.1 = 65533 → d.2 = 1 → wrongR d = true := fun d h1 h2 => by
  unfold wrongR
  rw [decide_eq_true h1, decide_eq_true h2]
  rfl
theorem szR_bad' {s : ByteArray} {c n : Nat} (h : Utf8.decode s 0 = (c, n)) (h1 : c = 65533) (h2 : n = 1) : szR s = (1, -1) := by
  have e1 : (Utf8.decode s 0).1 = c := by rw [h]
  have e2 : (Utf8.decode s 0).2 = n := by rw [h]
  have h3 : wrongR (Utf8.decode s 0) = true := wrong_err _ (e1.trans h1) (e2.trans h2)
  unfold szR
  exact if_pos h3
theorem szR_bad {s : ByteArray} (h : Utf8.decode s 0 = (65533, 1)) : szR s = (1, -1) := szR_bad' h (Eq.refl _) (Eq.refl _)
theorem szR_1 {s : ByteArray} (h : bN s 0 < 128) : szR s = (1, (bN s 0 : Int)) := by
  refine szR_of ?_ (by omega)
  rw [dec_eq, if_pos h]
theorem szR_0 {s : ByteArray} (h : 128 ≤ bN s 0) (h2 : bN s 0 < 192 ∨ 248 ≤ bN s 0) : szR s = (1, -1) := by
  refine szR_bad ?_
  rw [dec_eq, if_neg (by omega), if_neg (by simp only [beq_iff_eq]; omega), if_neg (by simp only [beq_iff_eq]; omega), if_neg (by simp only [beq_iff_eq]; have := bN_lt s 0; omega)]
/-- The number, k bytes on. -/
def vR (s : ByteArray) (v : Nat) : Nat → Nat
  | 0 => v
  | k + 1 => vR s v k * 64 + (bN s (k + 1) - 128)
theorem vR_two (a b : Nat) (h : 192 ≤ a) (h2 : a < 224) (h3 : 128 ≤ b) (h4 : b < 192) : (a - 192) * 64 + (b - 128) = a % 32 * 64 + b % 64 := by omega
theorem szR_2 {s : ByteArray} (h : 192 ≤ bN s 0) (h2 : bN s 0 < 224) :
    szR s = if 2 ≤ s.size ∧ contN (bN s 1) ∧ 128 ≤ vR s (bN s 0 - 192) 1 then (2, (vR s (bN s 0 - 192) 1 : Int)) else (1, -1) := by
  have e : contN (bN s 1) → vR s (bN s 0 - 192) 1 = bN s 0 % 32 * 64 + bN s 1 % 64 := fun hc => vR_two (bN s 0) (bN s 1) h h2 hc.1 hc.2
  by_cases hs : 2 ≤ s.size ∧ contN (bN s 1)
  · have hd : Utf8.decode s 0 = if 128 ≤ bN s 0 % 32 * 64 + bN s 1 % 64 then (bN s 0 % 32 * 64 + bN s 1 % 64, 2) else (65533, 1) := by
      rw [dec_eq, if_neg (by omega), if_pos ⟨by simp only [beq_iff_eq]; omega, by omega, hs.2⟩]
    by_cases hv : 128 ≤ vR s (bN s 0 - 192) 1
    · rw [if_pos ⟨hs.1, hs.2, hv⟩, e hs.2]
      refine szR_of ?_ (by omega)
      rw [hd, if_pos (by rw [← e hs.2]; exact hv)]
    · rw [if_neg (fun k => hv k.2.2)]
      refine szR_bad ?_
      rw [hd, if_neg (by rw [← e hs.2]; exact hv)]
  · rw [if_neg (fun k => hs ⟨k.1, k.2.1⟩)]
    refine szR_bad ?_
    rw [dec_eq, if_neg (by omega), if_neg (fun k => hs ⟨by omega, k.2.2⟩), if_neg (by simp only [beq_iff_eq]; omega), if_neg (by simp only [beq_iff_eq]; omega)]
theorem vR_three (a b c : Nat) (h : 224 ≤ a) (h2 : a < 240) (h3 : 128 ≤ b) (h4 : b < 192) (h5 : 128 ≤ c) (h6 : c < 192) : ((a - 224) * 64 + (b - 128)) * 64 + (c - 128) = a % 16 * 4096 + b % 64 * 64 + c % 64 := by omega
theorem szR_3 {s : ByteArray} (h : 224 ≤ bN s 0) (h2 : bN s 0 < 240) :
    szR s = if 3 ≤ s.size ∧ contN (bN s 1) ∧ contN (bN s 2) ∧ 2048 ≤ vR s (bN s 0 - 224) 2 ∧ ¬ (55296 ≤ vR s (bN s 0 - 224) 2 ∧ vR s (bN s 0 - 224) 2 ≤ 57343) then (3, (vR s (bN s 0 - 224) 2 : Int)) else (1, -1) := by
  have e : contN (bN s 1) → contN (bN s 2) → vR s (bN s 0 - 224) 2 = bN s 0 % 16 * 4096 + bN s 1 % 64 * 64 + bN s 2 % 64 := fun hc hc2 => vR_three (bN s 0) (bN s 1) (bN s 2) h h2 hc.1 hc.2 hc2.1 hc2.2
  by_cases hs : 3 ≤ s.size ∧ contN (bN s 1) ∧ contN (bN s 2)
  · have e2 := e hs.2.1 hs.2.2
    have hd := dec_eq s
    rw [if_neg (by omega), if_neg (by simp only [beq_iff_eq]; omega), if_pos ⟨by simp only [beq_iff_eq]; omega, by omega, hs.2.1, by omega, hs.2.2⟩] at hd
    rw [← e2] at hd
    by_cases hv : 2048 ≤ vR s (bN s 0 - 224) 2 ∧ ¬ (55296 ≤ vR s (bN s 0 - 224) 2 ∧ vR s (bN s 0 - 224) 2 ≤ 57343)
    · rw [if_pos ⟨hs.1, hs.2.1, hs.2.2, hv⟩]
      refine szR_of ?_ (by omega)
      rw [hd, if_pos ⟨hv.1, (valid_iff _).2 (by have := bN_lt s 0; have := hs.2.1; have := hs.2.2; unfold contN at *; omega)⟩]
    · rw [if_neg (fun k => hv k.2.2.2)]
      refine szR_bad ?_
      rw [hd, if_neg (fun k => hv ⟨k.1, by have := (valid_iff _).1 k.2; omega⟩)]
  · rw [if_neg (fun k => hs ⟨k.1, k.2.1, k.2.2.1⟩)]
    refine szR_bad ?_
    rw [dec_eq, if_neg (by omega), if_neg (by simp only [beq_iff_eq]; omega), if_neg (fun k => hs ⟨by omega, k.2.2.1, k.2.2.2.2⟩), if_neg (by simp only [beq_iff_eq]; omega)]
theorem vR_four (a b c d : Nat) (h : 240 ≤ a) (h2 : a < 248) (h3 : 128 ≤ b) (h4 : b < 192) (h5 : 128 ≤ c) (h6 : c < 192) (h7 : 128 ≤ d) (h8 : d < 192) : (((a - 240) * 64 + (b - 128)) * 64 + (c - 128)) * 64 + (d - 128) = a % 8 * 262144 + b % 64 * 4096 + c % 64 * 64 + d % 64 := by omega
theorem szR_4 {s : ByteArray} (h : 240 ≤ bN s 0) (h2 : bN s 0 < 248) :
    szR s = if 4 ≤ s.size ∧ contN (bN s 1) ∧ contN (bN s 2) ∧ contN (bN s 3) ∧ 65536 ≤ vR s (bN s 0 - 240) 3 ∧ vR s (bN s 0 - 240) 3 ≤ 1114111 then (4, (vR s (bN s 0 - 240) 3 : Int)) else (1, -1) := by
  have e : contN (bN s 1) → contN (bN s 2) → contN (bN s 3) → vR s (bN s 0 - 240) 3 = bN s 0 % 8 * 262144 + bN s 1 % 64 * 4096 + bN s 2 % 64 * 64 + bN s 3 % 64 := fun hc hc2 hc3 => vR_four (bN s 0) (bN s 1) (bN s 2) (bN s 3) h h2 hc.1 hc.2 hc2.1 hc2.2 hc3.1 hc3.2
  by_cases hs : 4 ≤ s.size ∧ contN (bN s 1) ∧ contN (bN s 2) ∧ contN (bN s 3)
  · have e2 := e hs.2.1 hs.2.2.1 hs.2.2.2
    have hd := dec_eq s
    rw [if_neg (by omega), if_neg (by simp only [beq_iff_eq]; omega), if_neg (by simp only [beq_iff_eq]; omega), if_pos ⟨by simp only [beq_iff_eq]; omega, by omega, hs.2.1, by omega, hs.2.2.1, by omega, hs.2.2.2⟩] at hd
    rw [← e2] at hd
    by_cases hv : 65536 ≤ vR s (bN s 0 - 240) 3 ∧ vR s (bN s 0 - 240) 3 ≤ 1114111
    · rw [if_pos ⟨hs.1, hs.2.1, hs.2.2.1, hs.2.2.2, hv⟩]
      refine szR_of ?_ (by omega)
      rw [hd, if_pos ⟨hv.1, (valid_iff _).2 (by omega)⟩]
    · rw [if_neg (fun k => hv k.2.2.2.2)]
      refine szR_bad ?_
      rw [hd, if_neg (fun k => hv ⟨k.1, by have := (valid_iff _).1 k.2; omega⟩)]
  · rw [if_neg (fun k => hs ⟨k.1, k.2.1, k.2.2.1, k.2.2.2.1⟩)]
    refine szR_bad ?_
    rw [dec_eq, if_neg (by omega), if_neg (by simp only [beq_iff_eq]; omega), if_neg (by simp only [beq_iff_eq]; omega), if_neg (fun k => hs ⟨by omega, k.2.2.1, k.2.2.2.2.1, k.2.2.2.2.2.2⟩)]
theorem vR_lt (s : ByteArray) (v : Nat) (hv : v < 32) (k : Nat) (hk : k ≤ 3) : vR s v k < 33554432 := by
  have h1 := bN_lt s 1
  have h2 := bN_lt s 2
  have h3 := bN_lt s 3
  have e0 : vR s v 0 = v := rfl
  have e1 : vR s v 1 = vR s v 0 * 64 + (bN s 1 - 128) := rfl
  have e2 : vR s v 2 = vR s v 1 * 64 + (bN s 2 - 128) := rfl
  have e3 : vR s v 3 = vR s v 2 * 64 + (bN s 3 - 128) := rfl
  have : k = 0 ∨ k = 1 ∨ k = 2 ∨ k = 3 := by omega
  rcases this with rfl | rfl | rfl | rfl <;> omega

set_option maxRecDepth 100000 in
set_option maxHeartbeats 3200000 in
theorem size_any (s : ByteArray) (n : Nat) (v : Int) (h : szR s = (n, v)) (h0 : 0 < s.size) (w : World) :
    Calls Tryd.prog 54 #[.string s] w fun r w' => r = .returned (.tuple #[.int .i64 n, .int .i64 v]) ∧ w' = w := by
  have hb0 := get_bN s 0 h0
  have i0 : (0 : Int) < (s.size : Int) := by omega
  have hx0 := bN_lt s 0
  by_cases k1 : bN s 0 < 128
  · have g : (bN s 0 : Int) < 128 := by omega
    rw [szR_1 k1] at h
    obtain ⟨rfl, rfl⟩ : 1 = n ∧ (bN s 0 : Int) = v := by simpa using h
    clear h
    go_enter Tryd.func54, Tryd.ntmps54
    go_wp2_with fail
    go_ret2
    exact ⟨rfl, rfl⟩
  · have g : ¬ (bN s 0 : Int) < 128 := by omega
    by_cases k2 : bN s 0 < 192
    · have g2 : ¬ (192 : Int) ≤ (bN s 0 : Int) := by omega
      have g3 : ¬ (224 : Int) ≤ (bN s 0 : Int) := by omega
      have g4 : ¬ (240 : Int) ≤ (bN s 0 : Int) := by omega
      rw [szR_0 (by omega) (by omega)] at h
      obtain ⟨rfl, rfl⟩ : 1 = n ∧ -1 = v := by simpa using h
      clear h
      go_enter Tryd.func54, Tryd.ntmps54
      go_wp2_with fail
      go_ret2
      exact ⟨rfl, rfl⟩
    · have g2 : (192 : Int) ≤ (bN s 0 : Int) := by omega
      by_cases k3 : bN s 0 < 224
      · have g3 : (bN s 0 : Int) < 224 := by omega
        have h1 := szR_2 (s := s) (by omega) (by omega)
        rw [h1] at h
        have H := Lib.hid h
        clear h h1
        by_cases hsz : 2 ≤ s.size
        · have g1 : ¬ (s.size : Int) < 2 := by omega
          have e0 : (bN s 0 : Int) - 192 = ((bN s 0 - 192 : Nat) : Int) := by omega
          obtain ⟨v1, hv1⟩ : ∃ v1, bN s 0 - 192 = v1 := ⟨_, rfl⟩
          rw [hv1] at e0
          have hv32 : v1 < 32 := by omega
          have hvt : v1 < 32 := by omega
          rw [hv1] at H
          clear hv1
          have ew : IntKind.i64.wrap (v1 : Int) = (v1 : Int) := by rw [IntKind.wrap_i64]; omega
          go_enter Tryd.func54, Tryd.ntmps54
          go_wp2_with fail
          go_loop [7, 8, 9] (fun t7 t8 _ => ∃ k : Nat, k + 1 ≤ 2 ∧ t8 = .int .i64 ((k : Int) + 1) ∧ t7 = .int .i64 (vR s v1 k) ∧ ∀ j, 1 ≤ j → j ≤ k → contN (bN s j)) (fun _ t8 _ => 2 - (intOf t8).toNat)
          case atStart => exact ⟨0, by omega, rfl, rfl, fun j h1 h2 => absurd h1 (by omega)⟩
          case round =>
            obtain ⟨k, hk, rfl, rfl, hct⟩ := hrel
            have hvk := vR_lt s v1 hv32 k (by omega)
            have HCT := Lib.hid hct
            clear hct
            by_cases hlt : k + 1 < 2
            · have i1 : (k : Int) + 1 < 2 := by omega
              have i2 : (0 : Int) ≤ (k : Int) + 1 := by omega
              have i3 : (k : Int) + 1 < (s.size : Int) := by omega
              have i4 : ((k : Int) + 1).toNat = k + 1 := by omega
              obtain ⟨x, hx⟩ : ∃ x, bN s (k + 1) = x := ⟨_, rfl⟩
              have hx256 : x < 256 := by rw [← hx]; exact bN_lt s (k + 1)
              have hbx := get_bN s (k + 1) (by omega)
              rw [hx] at hbx
              have HX := Lib.hid hx
              clear hx
              obtain ⟨V, hV⟩ : ∃ V, vR s v1 k = V := ⟨_, rfl⟩
              have hVs : vR s v1 (k + 1) = V * 64 + (x - 128) := by
                show vR s v1 k * 64 + (bN s (k + 1) - 128) = _
                rw [hV, HX.out]
              rw [hV] at hvk
              rw [hV]
              have HVS := Lib.hid hVs
              clear hV hVs
              by_cases hx1 : x < 128
              · have j1 : (x : Int) < 128 := by omega
                obtain ⟨rfl, rfl⟩ : 1 = n ∧ -1 = v := by
                  have h1 := H.out
                  rw [if_neg (fun k' => by have hc : contN (bN s (k + 1)) := (by match k, hlt with | 0, _ => exact k'.2.1); rw [HX.out] at hc; unfold contN at hc; omega)] at h1
                  simpa using h1
                go_wp2_with fail
                go_ret2
                exact ⟨rfl, rfl⟩
              · have j1 : ¬ (x : Int) < 128 := by omega
                by_cases hx2 : 192 ≤ x
                · have j2 : (192 : Int) ≤ (x : Int) := by omega
                  obtain ⟨rfl, rfl⟩ : 1 = n ∧ -1 = v := by
                    have h1 := H.out
                    rw [if_neg (fun k' => by have hc : contN (bN s (k + 1)) := (by match k, hlt with | 0, _ => exact k'.2.1); rw [HX.out] at hc; unfold contN at hc; omega)] at h1
                    simpa using h1
                  go_wp2_with fail
                  go_ret2
                  exact ⟨rfl, rfl⟩
                · have j2 : ¬ (192 : Int) ≤ (x : Int) := by omega
                  go_wp2_with fail
                  go_round
                  case rel =>
                    refine ⟨k + 1, by omega, by go_num, ?_, fun j h1 h2 => ?_⟩
                    · rw [HVS.out]
                      go_num
                    · by_cases e : j = k + 1
                      · subst e
                        rw [HX.out]
                        exact ⟨by omega, by omega⟩
                      · exact HCT.out j h1 (by omega)
                  case measure => simp [intOf]; omega
            · obtain rfl : k = 1 := by omega
              have i1 : ¬ (((1 : Nat) : Int) + 1 < 2) := by omega
              have hcc := HCT.out
              have hVb : vR s v1 1 < 2048 := by
                have t1 := hcc 1 (by omega) (by omega)
                unfold contN at t1
                have e1 : vR s v1 1 = v1 * 64 + (bN s 1 - 128) := rfl
                omega
              obtain ⟨V, hV⟩ : ∃ V, vR s v1 1 = V := ⟨_, rfl⟩
              rw [hV] at hvk H hVb
              rw [hV]
              clear hV
              by_cases c0 : V < 128
              · have d0 : (V : Int) < 128 := by omega
                obtain ⟨rfl, rfl⟩ : 1 = n ∧ -1 = v := by
                  have h1 := H.out
                  rw [if_neg (fun k' => by omega)] at h1
                  simpa using h1
                go_wp2_with fail
                go_ret2
                exact ⟨rfl, rfl⟩
              · have d0 : ¬ (V : Int) < 128 := by omega
                have d1 : ¬ (1114111 : Int) < (V : Int) := by omega
                have d2 : ¬ (55296 : Int) ≤ (V : Int) := by omega
                obtain ⟨rfl, rfl⟩ : 2 = n ∧ (V : Int) = v := by
                  have h1 := H.out
                  rw [if_pos ⟨hsz, hcc 1 (by omega) (by omega), (by omega)⟩] at h1
                  simpa using h1
                go_wp2_with fail
                go_ret2
                exact ⟨rfl, rfl⟩
        · have g1 : (s.size : Int) < 2 := by omega
          obtain ⟨rfl, rfl⟩ : 1 = n ∧ -1 = v := by
            have h1 := H.out
            rw [if_neg (fun k' => hsz k'.1)] at h1
            simpa using h1
          go_enter Tryd.func54, Tryd.ntmps54
          go_wp2_with fail
          go_ret2
          exact ⟨rfl, rfl⟩
      · have g3 : ¬ (bN s 0 : Int) < 224 := by omega
        have g3' : (224 : Int) ≤ (bN s 0 : Int) := by omega
        by_cases k4 : bN s 0 < 240
        · have g4 : (bN s 0 : Int) < 240 := by omega
          have h1 := szR_3 (s := s) (by omega) (by omega)
          rw [h1] at h
          have H := Lib.hid h
          clear h h1
          by_cases hsz : 3 ≤ s.size
          · have g1 : ¬ (s.size : Int) < 3 := by omega
            have e0 : (bN s 0 : Int) - 224 = ((bN s 0 - 224 : Nat) : Int) := by omega
            obtain ⟨v1, hv1⟩ : ∃ v1, bN s 0 - 224 = v1 := ⟨_, rfl⟩
            rw [hv1] at e0
            have hv32 : v1 < 32 := by omega
            have hvt : v1 < 16 := by omega
            rw [hv1] at H
            clear hv1
            have ew : IntKind.i64.wrap (v1 : Int) = (v1 : Int) := by rw [IntKind.wrap_i64]; omega
            go_enter Tryd.func54, Tryd.ntmps54
            go_wp2_with fail
            go_loop [7, 8, 9] (fun t7 t8 _ => ∃ k : Nat, k + 1 ≤ 3 ∧ t8 = .int .i64 ((k : Int) + 1) ∧ t7 = .int .i64 (vR s v1 k) ∧ ∀ j, 1 ≤ j → j ≤ k → contN (bN s j)) (fun _ t8 _ => 3 - (intOf t8).toNat)
            case atStart => exact ⟨0, by omega, rfl, rfl, fun j h1 h2 => absurd h1 (by omega)⟩
            case round =>
              obtain ⟨k, hk, rfl, rfl, hct⟩ := hrel
              have hvk := vR_lt s v1 hv32 k (by omega)
              have HCT := Lib.hid hct
              clear hct
              by_cases hlt : k + 1 < 3
              · have i1 : (k : Int) + 1 < 3 := by omega
                have i2 : (0 : Int) ≤ (k : Int) + 1 := by omega
                have i3 : (k : Int) + 1 < (s.size : Int) := by omega
                have i4 : ((k : Int) + 1).toNat = k + 1 := by omega
                obtain ⟨x, hx⟩ : ∃ x, bN s (k + 1) = x := ⟨_, rfl⟩
                have hx256 : x < 256 := by rw [← hx]; exact bN_lt s (k + 1)
                have hbx := get_bN s (k + 1) (by omega)
                rw [hx] at hbx
                have HX := Lib.hid hx
                clear hx
                obtain ⟨V, hV⟩ : ∃ V, vR s v1 k = V := ⟨_, rfl⟩
                have hVs : vR s v1 (k + 1) = V * 64 + (x - 128) := by
                  show vR s v1 k * 64 + (bN s (k + 1) - 128) = _
                  rw [hV, HX.out]
                rw [hV] at hvk
                rw [hV]
                have HVS := Lib.hid hVs
                clear hV hVs
                by_cases hx1 : x < 128
                · have j1 : (x : Int) < 128 := by omega
                  obtain ⟨rfl, rfl⟩ : 1 = n ∧ -1 = v := by
                    have h1 := H.out
                    rw [if_neg (fun k' => by have hc : contN (bN s (k + 1)) := (by match k, hlt with | 0, _ => exact k'.2.1 | 1, _ => exact k'.2.2.1); rw [HX.out] at hc; unfold contN at hc; omega)] at h1
                    simpa using h1
                  go_wp2_with fail
                  go_ret2
                  exact ⟨rfl, rfl⟩
                · have j1 : ¬ (x : Int) < 128 := by omega
                  by_cases hx2 : 192 ≤ x
                  · have j2 : (192 : Int) ≤ (x : Int) := by omega
                    obtain ⟨rfl, rfl⟩ : 1 = n ∧ -1 = v := by
                      have h1 := H.out
                      rw [if_neg (fun k' => by have hc : contN (bN s (k + 1)) := (by match k, hlt with | 0, _ => exact k'.2.1 | 1, _ => exact k'.2.2.1); rw [HX.out] at hc; unfold contN at hc; omega)] at h1
                      simpa using h1
                    go_wp2_with fail
                    go_ret2
                    exact ⟨rfl, rfl⟩
                  · have j2 : ¬ (192 : Int) ≤ (x : Int) := by omega
                    go_wp2_with fail
                    go_round
                    case rel =>
                      refine ⟨k + 1, by omega, by go_num, ?_, fun j h1 h2 => ?_⟩
                      · rw [HVS.out]
                        go_num
                      · by_cases e : j = k + 1
                        · subst e
                          rw [HX.out]
                          exact ⟨by omega, by omega⟩
                        · exact HCT.out j h1 (by omega)
                    case measure => simp [intOf]; omega
              · obtain rfl : k = 2 := by omega
                have i1 : ¬ (((2 : Nat) : Int) + 1 < 3) := by omega
                have hcc := HCT.out
                have hVb : vR s v1 2 < 65536 := by
                  have t1 := hcc 1 (by omega) (by omega)
                  have t2 := hcc 2 (by omega) (by omega)
                  unfold contN at t1 t2
                  have e2 : vR s v1 2 = (v1 * 64 + (bN s 1 - 128)) * 64 + (bN s 2 - 128) := rfl
                  omega
                obtain ⟨V, hV⟩ : ∃ V, vR s v1 2 = V := ⟨_, rfl⟩
                rw [hV] at hvk H hVb
                rw [hV]
                clear hV
                by_cases c0 : V < 2048
                · have d0 : (V : Int) < 2048 := by omega
                  obtain ⟨rfl, rfl⟩ : 1 = n ∧ -1 = v := by
                    have h1 := H.out
                    rw [if_neg (fun k' => by omega)] at h1
                    simpa using h1
                  go_wp2_with fail
                  go_ret2
                  exact ⟨rfl, rfl⟩
                · have d0 : ¬ (V : Int) < 2048 := by omega
                  by_cases c1 : 1114111 < V
                  · have d1 : (1114111 : Int) < (V : Int) := by omega
                    obtain ⟨rfl, rfl⟩ : 1 = n ∧ -1 = v := by
                      have h1 := H.out
                      rw [if_neg (fun k' => by omega)] at h1
                      simpa using h1
                    go_wp2_with fail
                    go_ret2
                    exact ⟨rfl, rfl⟩
                  · have d1 : ¬ (1114111 : Int) < (V : Int) := by omega
                    by_cases c2 : 55296 ≤ V
                    · have d2 : (55296 : Int) ≤ (V : Int) := by omega
                      by_cases c3 : V ≤ 57343
                      · have d3 : (V : Int) ≤ 57343 := by omega
                        obtain ⟨rfl, rfl⟩ : 1 = n ∧ -1 = v := by
                          have h1 := H.out
                          rw [if_neg (fun k' => by omega)] at h1
                          simpa using h1
                        go_wp2_with fail
                        go_ret2
                        exact ⟨rfl, rfl⟩
                      · have d3 : ¬ (V : Int) ≤ 57343 := by omega
                        obtain ⟨rfl, rfl⟩ : 3 = n ∧ (V : Int) = v := by
                          have h1 := H.out
                          rw [if_pos ⟨hsz, hcc 1 (by omega) (by omega), hcc 2 (by omega) (by omega), (by omega), (by omega)⟩] at h1
                          simpa using h1
                        go_wp2_with fail
                        go_ret2
                        exact ⟨rfl, rfl⟩
                    · have d2 : ¬ (55296 : Int) ≤ (V : Int) := by omega
                      obtain ⟨rfl, rfl⟩ : 3 = n ∧ (V : Int) = v := by
                        have h1 := H.out
                        rw [if_pos ⟨hsz, hcc 1 (by omega) (by omega), hcc 2 (by omega) (by omega), (by omega), (by omega)⟩] at h1
                        simpa using h1
                      go_wp2_with fail
                      go_ret2
                      exact ⟨rfl, rfl⟩
          · have g1 : (s.size : Int) < 3 := by omega
            obtain ⟨rfl, rfl⟩ : 1 = n ∧ -1 = v := by
              have h1 := H.out
              rw [if_neg (fun k' => hsz k'.1)] at h1
              simpa using h1
            go_enter Tryd.func54, Tryd.ntmps54
            go_wp2_with fail
            go_ret2
            exact ⟨rfl, rfl⟩
        · have g4 : ¬ (bN s 0 : Int) < 240 := by omega
          have g4' : (240 : Int) ≤ (bN s 0 : Int) := by omega
          by_cases k5 : bN s 0 < 248
          · have g5 : (bN s 0 : Int) < 248 := by omega
            have h1 := szR_4 (s := s) (by omega) (by omega)
            rw [h1] at h
            have H := Lib.hid h
            clear h h1
            by_cases hsz : 4 ≤ s.size
            · have g1 : ¬ (s.size : Int) < 4 := by omega
              have e0 : (bN s 0 : Int) - 240 = ((bN s 0 - 240 : Nat) : Int) := by omega
              obtain ⟨v1, hv1⟩ : ∃ v1, bN s 0 - 240 = v1 := ⟨_, rfl⟩
              rw [hv1] at e0
              have hv32 : v1 < 32 := by omega
              have hvt : v1 < 8 := by omega
              rw [hv1] at H
              clear hv1
              have ew : IntKind.i64.wrap (v1 : Int) = (v1 : Int) := by rw [IntKind.wrap_i64]; omega
              go_enter Tryd.func54, Tryd.ntmps54
              go_wp2_with fail
              go_loop [7, 8, 9] (fun t7 t8 _ => ∃ k : Nat, k + 1 ≤ 4 ∧ t8 = .int .i64 ((k : Int) + 1) ∧ t7 = .int .i64 (vR s v1 k) ∧ ∀ j, 1 ≤ j → j ≤ k → contN (bN s j)) (fun _ t8 _ => 4 - (intOf t8).toNat)
              case atStart => exact ⟨0, by omega, rfl, rfl, fun j h1 h2 => absurd h1 (by omega)⟩
              case round =>
                obtain ⟨k, hk, rfl, rfl, hct⟩ := hrel
                have hvk := vR_lt s v1 hv32 k (by omega)
                have HCT := Lib.hid hct
                clear hct
                by_cases hlt : k + 1 < 4
                · have i1 : (k : Int) + 1 < 4 := by omega
                  have i2 : (0 : Int) ≤ (k : Int) + 1 := by omega
                  have i3 : (k : Int) + 1 < (s.size : Int) := by omega
                  have i4 : ((k : Int) + 1).toNat = k + 1 := by omega
                  obtain ⟨x, hx⟩ : ∃ x, bN s (k + 1) = x := ⟨_, rfl⟩
                  have hx256 : x < 256 := by rw [← hx]; exact bN_lt s (k + 1)
                  have hbx := get_bN s (k + 1) (by omega)
                  rw [hx] at hbx
                  have HX := Lib.hid hx
                  clear hx
                  obtain ⟨V, hV⟩ : ∃ V, vR s v1 k = V := ⟨_, rfl⟩
                  have hVs : vR s v1 (k + 1) = V * 64 + (x - 128) := by
                    show vR s v1 k * 64 + (bN s (k + 1) - 128) = _
                    rw [hV, HX.out]
                  rw [hV] at hvk
                  rw [hV]
                  have HVS := Lib.hid hVs
                  clear hV hVs
                  by_cases hx1 : x < 128
                  · have j1 : (x : Int) < 128 := by omega
                    obtain ⟨rfl, rfl⟩ : 1 = n ∧ -1 = v := by
                      have h1 := H.out
                      rw [if_neg (fun k' => by have hc : contN (bN s (k + 1)) := (by match k, hlt with | 0, _ => exact k'.2.1 | 1, _ => exact k'.2.2.1 | 2, _ => exact k'.2.2.2.1); rw [HX.out] at hc; unfold contN at hc; omega)] at h1
                      simpa using h1
                    go_wp2_with fail
                    go_ret2
                    exact ⟨rfl, rfl⟩
                  · have j1 : ¬ (x : Int) < 128 := by omega
                    by_cases hx2 : 192 ≤ x
                    · have j2 : (192 : Int) ≤ (x : Int) := by omega
                      obtain ⟨rfl, rfl⟩ : 1 = n ∧ -1 = v := by
                        have h1 := H.out
                        rw [if_neg (fun k' => by have hc : contN (bN s (k + 1)) := (by match k, hlt with | 0, _ => exact k'.2.1 | 1, _ => exact k'.2.2.1 | 2, _ => exact k'.2.2.2.1); rw [HX.out] at hc; unfold contN at hc; omega)] at h1
                        simpa using h1
                      go_wp2_with fail
                      go_ret2
                      exact ⟨rfl, rfl⟩
                    · have j2 : ¬ (192 : Int) ≤ (x : Int) := by omega
                      go_wp2_with fail
                      go_round
                      case rel =>
                        refine ⟨k + 1, by omega, by go_num, ?_, fun j h1 h2 => ?_⟩
                        · rw [HVS.out]
                          go_num
                        · by_cases e : j = k + 1
                          · subst e
                            rw [HX.out]
                            exact ⟨by omega, by omega⟩
                          · exact HCT.out j h1 (by omega)
                      case measure => simp [intOf]; omega
                · obtain rfl : k = 3 := by omega
                  have i1 : ¬ (((3 : Nat) : Int) + 1 < 4) := by omega
                  have hcc := HCT.out
                  have hVb : vR s v1 3 < 9999999999 := by omega
                  obtain ⟨V, hV⟩ : ∃ V, vR s v1 3 = V := ⟨_, rfl⟩
                  rw [hV] at hvk H hVb
                  rw [hV]
                  clear hV
                  by_cases c0 : V < 65536
                  · have d0 : (V : Int) < 65536 := by omega
                    obtain ⟨rfl, rfl⟩ : 1 = n ∧ -1 = v := by
                      have h1 := H.out
                      rw [if_neg (fun k' => by omega)] at h1
                      simpa using h1
                    go_wp2_with fail
                    go_ret2
                    exact ⟨rfl, rfl⟩
                  · have d0 : ¬ (V : Int) < 65536 := by omega
                    by_cases c1 : 1114111 < V
                    · have d1 : (1114111 : Int) < (V : Int) := by omega
                      obtain ⟨rfl, rfl⟩ : 1 = n ∧ -1 = v := by
                        have h1 := H.out
                        rw [if_neg (fun k' => by omega)] at h1
                        simpa using h1
                      go_wp2_with fail
                      go_ret2
                      exact ⟨rfl, rfl⟩
                    · have d1 : ¬ (1114111 : Int) < (V : Int) := by omega
                      by_cases c2 : 55296 ≤ V
                      · have d2 : (55296 : Int) ≤ (V : Int) := by omega
                        by_cases c3 : V ≤ 57343
                        · have d3 : (V : Int) ≤ 57343 := by omega
                          obtain ⟨rfl, rfl⟩ : 1 = n ∧ -1 = v := by
                            have h1 := H.out
                            rw [if_neg (fun k' => by omega)] at h1
                            simpa using h1
                          go_wp2_with fail
                          go_ret2
                          exact ⟨rfl, rfl⟩
                        · have d3 : ¬ (V : Int) ≤ 57343 := by omega
                          obtain ⟨rfl, rfl⟩ : 4 = n ∧ (V : Int) = v := by
                            have h1 := H.out
                            rw [if_pos ⟨hsz, hcc 1 (by omega) (by omega), hcc 2 (by omega) (by omega), hcc 3 (by omega) (by omega), (by omega), (by omega)⟩] at h1
                            simpa using h1
                          go_wp2_with fail
                          go_ret2
                          exact ⟨rfl, rfl⟩
                      · have d2 : ¬ (55296 : Int) ≤ (V : Int) := by omega
                        obtain ⟨rfl, rfl⟩ : 4 = n ∧ (V : Int) = v := by
                          have h1 := H.out
                          rw [if_pos ⟨hsz, hcc 1 (by omega) (by omega), hcc 2 (by omega) (by omega), hcc 3 (by omega) (by omega), (by omega), (by omega)⟩] at h1
                          simpa using h1
                        go_wp2_with fail
                        go_ret2
                        exact ⟨rfl, rfl⟩
            · have g1 : (s.size : Int) < 4 := by omega
              obtain ⟨rfl, rfl⟩ : 1 = n ∧ -1 = v := by
                have h1 := H.out
                rw [if_neg (fun k' => hsz k'.1)] at h1
                simpa using h1
              go_enter Tryd.func54, Tryd.ntmps54
              go_wp2_with fail
              go_ret2
              exact ⟨rfl, rfl⟩
          · have g5 : ¬ (bN s 0 : Int) < 248 := by omega
            rw [szR_0 (by omega) (by omega)] at h
            obtain ⟨rfl, rfl⟩ : 1 = n ∧ -1 = v := by simpa using h
            clear h
            go_enter Tryd.func54, Tryd.ntmps54
            go_wp2_with fail
            go_ret2
            exact ⟨rfl, rfl⟩
end Go.Proofs.YtcgolhaiciffeaaDoor
