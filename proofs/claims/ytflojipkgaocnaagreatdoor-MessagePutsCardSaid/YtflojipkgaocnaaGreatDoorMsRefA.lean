/-
  EvSize, MsRunes, MsRef5, MsRef6, in one text.
-/
import Derived.Test.YtflojipkgaocnaaGreatDoorEvName
import Derived.IntWalk
import Derived.Deep.AppendLies
import Derived.Lib.RuneCountTail
import Derived.Test.YtflojipkgaocnaaGreatDoorEvPut
import Derived.Test.YtflojipkgaocnaaGreatDoorEvNumRef
import Derived.Test.YtflojipkgaocnaaGreatDoorMsRow
namespace Go.Proofs.YtflojipkgaocnaaGreatDoor
open Go.RowKit

def bN (s : ByteArray) (k : Nat) : Nat := (s.get! k).toNat
theorem get_bN (s : ByteArray) : ∀ (n : Nat) (h : n < s.size), ((s[n]'h).toNat : Int) = (bN s n : Int) := fun n h => by
  unfold bN
  rw [show s.get! n = s[n]'h from by
    show s.data[n]! = s.data[n]
    exact getElem!_pos s.data n h]
theorem bN_lt (s : ByteArray) (k : Nat) : bN s k < 256 := (s.get! k).toNat_lt
/-- The rune that a text begins with: 1 and -1: none. -/
def szR (s : ByteArray) : Nat × Int := if wrongR (Utf8.decode s 0) = true then (1, -1) else ((Utf8.decode s 0).2, (Utf8.decode s 0).1)
def contN (x : Nat) : Prop := 128 ≤ x ∧ x < 192
instance (x : Nat) : Decidable (contN x) := by unfold contN; infer_instance
theorem cont_bool (x : Nat) (h : x < 256) : (x / 64 == 2) = decide (contN x) := by
  by_cases h1 : contN x
  · rw [decide_eq_true h1, beq_iff_eq]
    unfold contN at h1
    omega
  · rw [decide_eq_false h1, beq_eq_false_iff_ne]
    unfold contN at h1
    omega
set_option maxRecDepth 100000 in
theorem dec_eq (s : ByteArray) : Utf8.decode s 0 =
    if bN s 0 < 128 then (bN s 0, 1)
    else if (bN s 0 / 32 == 6) = true ∧ 1 < s.size ∧ contN (bN s 1) then (if 128 ≤ bN s 0 % 32 * 64 + bN s 1 % 64 then (bN s 0 % 32 * 64 + bN s 1 % 64, 2) else (65533, 1))
    else if (bN s 0 / 16 == 14) = true ∧ 1 < s.size ∧ contN (bN s 1) ∧ 2 < s.size ∧ contN (bN s 2) then (if 2048 ≤ bN s 0 % 16 * 4096 + bN s 1 % 64 * 64 + bN s 2 % 64 ∧ Utf8.valid ((bN s 0 % 16 * 4096 + bN s 1 % 64 * 64 + bN s 2 % 64 : Nat) : Int) = true then (bN s 0 % 16 * 4096 + bN s 1 % 64 * 64 + bN s 2 % 64, 3) else (65533, 1))
    else if (bN s 0 / 8 == 30) = true ∧ 1 < s.size ∧ contN (bN s 1) ∧ 2 < s.size ∧ contN (bN s 2) ∧ 3 < s.size ∧ contN (bN s 3) then (if 65536 ≤ bN s 0 % 8 * 262144 + bN s 1 % 64 * 4096 + bN s 2 % 64 * 64 + bN s 3 % 64 ∧ Utf8.valid ((bN s 0 % 8 * 262144 + bN s 1 % 64 * 4096 + bN s 2 % 64 * 64 + bN s 3 % 64 : Nat) : Int) = true then (bN s 0 % 8 * 262144 + bN s 1 % 64 * 4096 + bN s 2 % 64 * 64 + bN s 3 % 64, 4) else (65533, 1))
    else (65533, 1) := by
  unfold Utf8.decode
  have q0 : (s.get! 0).toNat = bN s 0 := rfl
  have q1 : (s.get! 1).toNat = bN s 1 := rfl
  have q2 : (s.get! 2).toNat = bN s 2 := rfl
  have q3 : (s.get! 3).toNat = bN s 3 := rfl
  simp only [Nat.zero_add, q0, q1, q2, q3, cont_bool _ (bN_lt s 1), cont_bool _ (bN_lt s 2), cont_bool _ (bN_lt s 3), Bool.and_eq_true, decide_eq_true_eq, Utf8.runeError, and_assoc, ge_iff_le]
theorem valid_iff (n : Nat) : Utf8.valid (n : Int) = true ↔ n < 55296 ∨ (57344 ≤ n ∧ n ≤ 1114111) := by
  unfold Utf8.valid
  simp only [Bool.or_eq_true, Bool.and_eq_true, decide_eq_true_eq]
  omega
theorem szR_of {s : ByteArray} {c n : Nat} (h : Utf8.decode s 0 = (c, n)) (hn : ¬ (c = 65533 ∧ n = 1)) : szR s = (n, (c : Int)) := by
  unfold szR wrongR
  rw [h, if_neg]
  simpa using hn
theorem wrong_err : ∀ d : Nat × Nat, d.1 = 65533 → d.2 = 1 → wrongR d = true := fun d h1 h2 => by
  unfold wrongR
  rw [decide_eq_true h1, decide_eq_true h2]
  rfl
theorem szR_bad' {s : ByteArray} {c n : Nat} (h : Utf8.decode s 0 = (c, n)) (h1 : c = 65533) (h2 : n = 1) : szR s = (1, -1) := by
  have e1 : (Utf8.decode s 0).1 = c := by rw [h]
  have e2 : (Utf8.decode s 0).2 = n := by rw [h]
  have h3 : wrongR (Utf8.decode s 0) = true := wrong_err _ (e1.trans h1) (e2.trans h2)
  unfold szR
  exact if_pos h3
theorem szR_bad {s : ByteArray} (h : Utf8.decode s 0 = (65533, 1)) : szR s = (1, -1) := szR_bad' h (Eq.refl _) (Eq.refl _)
theorem szR_1 {s : ByteArray} (h : bN s 0 < 128) : szR s = (1, (bN s 0 : Int)) := by
  refine szR_of ?_ (by omega)
  rw [dec_eq, if_pos h]
theorem szR_0 {s : ByteArray} (h : 128 ≤ bN s 0) (h2 : bN s 0 < 192 ∨ 248 ≤ bN s 0) : szR s = (1, -1) := by
  refine szR_bad ?_
  rw [dec_eq, if_neg (by omega), if_neg (by simp only [beq_iff_eq]; omega), if_neg (by simp only [beq_iff_eq]; omega), if_neg (by simp only [beq_iff_eq]; have := bN_lt s 0; omega)]
/-- The number, k bytes on. -/
def vR (s : ByteArray) (v : Nat) : Nat → Nat
  | 0 => v
  | k + 1 => vR s v k * 64 + (bN s (k + 1) - 128)
theorem vR_two (a b : Nat) (h : 192 ≤ a) (h2 : a < 224) (h3 : 128 ≤ b) (h4 : b < 192) : (a - 192) * 64 + (b - 128) = a % 32 * 64 + b % 64 := by omega
theorem szR_2 {s : ByteArray} (h : 192 ≤ bN s 0) (h2 : bN s 0 < 224) :
    szR s = if 2 ≤ s.size ∧ contN (bN s 1) ∧ 128 ≤ vR s (bN s 0 - 192) 1 then (2, (vR s (bN s 0 - 192) 1 : Int)) else (1, -1) := by
  have e : contN (bN s 1) → vR s (bN s 0 - 192) 1 = bN s 0 % 32 * 64 + bN s 1 % 64 := fun hc => vR_two (bN s 0) (bN s 1) h h2 hc.1 hc.2
  by_cases hs : 2 ≤ s.size ∧ contN (bN s 1)
  · have hd : Utf8.decode s 0 = if 128 ≤ bN s 0 % 32 * 64 + bN s 1 % 64 then (bN s 0 % 32 * 64 + bN s 1 % 64, 2) else (65533, 1) := by
      rw [dec_eq, if_neg (by omega), if_pos ⟨by simp only [beq_iff_eq]; omega, by omega, hs.2⟩]
    by_cases hv : 128 ≤ vR s (bN s 0 - 192) 1
    · rw [if_pos ⟨hs.1, hs.2, hv⟩, e hs.2]
      refine szR_of ?_ (by omega)
      rw [hd, if_pos (by rw [← e hs.2]; exact hv)]
    · rw [if_neg (fun k => hv k.2.2)]
      refine szR_bad ?_
      rw [hd, if_neg (by rw [← e hs.2]; exact hv)]
  · rw [if_neg (fun k => hs ⟨k.1, k.2.1⟩)]
    refine szR_bad ?_
    rw [dec_eq, if_neg (by omega), if_neg (fun k => hs ⟨by omega, k.2.2⟩), if_neg (by simp only [beq_iff_eq]; omega), if_neg (by simp only [beq_iff_eq]; omega)]
theorem vR_three (a b c : Nat) (h : 224 ≤ a) (h2 : a < 240) (h3 : 128 ≤ b) (h4 : b < 192) (h5 : 128 ≤ c) (h6 : c < 192) : ((a - 224) * 64 + (b - 128)) * 64 + (c - 128) = a % 16 * 4096 + b % 64 * 64 + c % 64 := by omega
theorem szR_3 {s : ByteArray} (h : 224 ≤ bN s 0) (h2 : bN s 0 < 240) :
    szR s = if 3 ≤ s.size ∧ contN (bN s 1) ∧ contN (bN s 2) ∧ 2048 ≤ vR s (bN s 0 - 224) 2 ∧ ¬ (55296 ≤ vR s (bN s 0 - 224) 2 ∧ vR s (bN s 0 - 224) 2 ≤ 57343) then (3, (vR s (bN s 0 - 224) 2 : Int)) else (1, -1) := by
  have e : contN (bN s 1) → contN (bN s 2) → vR s (bN s 0 - 224) 2 = bN s 0 % 16 * 4096 + bN s 1 % 64 * 64 + bN s 2 % 64 := fun hc hc2 => vR_three (bN s 0) (bN s 1) (bN s 2) h h2 hc.1 hc.2 hc2.1 hc2.2
  by_cases hs : 3 ≤ s.size ∧ contN (bN s 1) ∧ contN (bN s 2)
  · have e2 := e hs.2.1 hs.2.2
    have hd := dec_eq s
    rw [if_neg (by omega), if_neg (by simp only [beq_iff_eq]; omega), if_pos ⟨by simp only [beq_iff_eq]; omega, by omega, hs.2.1, by omega, hs.2.2⟩] at hd
    rw [← e2] at hd
    by_cases hv : 2048 ≤ vR s (bN s 0 - 224) 2 ∧ ¬ (55296 ≤ vR s (bN s 0 - 224) 2 ∧ vR s (bN s 0 - 224) 2 ≤ 57343)
    · rw [if_pos ⟨hs.1, hs.2.1, hs.2.2, hv⟩]
      refine szR_of ?_ (by omega)
      rw [hd, if_pos ⟨hv.1, (valid_iff _).2 (by have := bN_lt s 0; have := hs.2.1; have := hs.2.2; unfold contN at *; omega)⟩]
    · rw [if_neg (fun k => hv k.2.2.2)]
      refine szR_bad ?_
      rw [hd, if_neg (fun k => hv ⟨k.1, by have := (valid_iff _).1 k.2; omega⟩)]
  · rw [if_neg (fun k => hs ⟨k.1, k.2.1, k.2.2.1⟩)]
    refine szR_bad ?_
    rw [dec_eq, if_neg (by omega), if_neg (by simp only [beq_iff_eq]; omega), if_neg (fun k => hs ⟨by omega, k.2.2.1, k.2.2.2.2⟩), if_neg (by simp only [beq_iff_eq]; omega)]
theorem vR_four (a b c d : Nat) (h : 240 ≤ a) (h2 : a < 248) (h3 : 128 ≤ b) (h4 : b < 192) (h5 : 128 ≤ c) (h6 : c < 192) (h7 : 128 ≤ d) (h8 : d < 192) : (((a - 240) * 64 + (b - 128)) * 64 + (c - 128)) * 64 + (d - 128) = a % 8 * 262144 + b % 64 * 4096 + c % 64 * 64 + d % 64 := by omega
theorem szR_4 {s : ByteArray} (h : 240 ≤ bN s 0) (h2 : bN s 0 < 248) :
    szR s = if 4 ≤ s.size ∧ contN (bN s 1) ∧ contN (bN s 2) ∧ contN (bN s 3) ∧ 65536 ≤ vR s (bN s 0 - 240) 3 ∧ vR s (bN s 0 - 240) 3 ≤ 1114111 then (4, (vR s (bN s 0 - 240) 3 : Int)) else (1, -1) := by
  have e : contN (bN s 1) → contN (bN s 2) → contN (bN s 3) → vR s (bN s 0 - 240) 3 = bN s 0 % 8 * 262144 + bN s 1 % 64 * 4096 + bN s 2 % 64 * 64 + bN s 3 % 64 := fun hc hc2 hc3 => vR_four (bN s 0) (bN s 1) (bN s 2) (bN s 3) h h2 hc.1 hc.2 hc2.1 hc2.2 hc3.1 hc3.2
  by_cases hs : 4 ≤ s.size ∧ contN (bN s 1) ∧ contN (bN s 2) ∧ contN (bN s 3)
  · have e2 := e hs.2.1 hs.2.2.1 hs.2.2.2
    have hd := dec_eq s
    rw [if_neg (by omega), if_neg (by simp only [beq_iff_eq]; omega), if_neg (by simp only [beq_iff_eq]; omega), if_pos ⟨by simp only [beq_iff_eq]; omega, by omega, hs.2.1, by omega, hs.2.2.1, by omega, hs.2.2.2⟩] at hd
    rw [← e2] at hd
    by_cases hv : 65536 ≤ vR s (bN s 0 - 240) 3 ∧ vR s (bN s 0 - 240) 3 ≤ 1114111
    · rw [if_pos ⟨hs.1, hs.2.1, hs.2.2.1, hs.2.2.2, hv⟩]
      refine szR_of ?_ (by omega)
      rw [hd, if_pos ⟨hv.1, (valid_iff _).2 (by omega)⟩]
    · rw [if_neg (fun k => hv k.2.2.2.2)]
      refine szR_bad ?_
      rw [hd, if_neg (fun k => hv ⟨k.1, by have := (valid_iff _).1 k.2; omega⟩)]
  · rw [if_neg (fun k => hs ⟨k.1, k.2.1, k.2.2.1, k.2.2.2.1⟩)]
    refine szR_bad ?_
    rw [dec_eq, if_neg (by omega), if_neg (by simp only [beq_iff_eq]; omega), if_neg (by simp only [beq_iff_eq]; omega), if_neg (fun k => hs ⟨by omega, k.2.2.1, k.2.2.2.2.1, k.2.2.2.2.2.2⟩)]
theorem vR_lt (s : ByteArray) (v : Nat) (hv : v < 32) (k : Nat) (hk : k ≤ 3) : vR s v k < 33554432 := by
  have h1 := bN_lt s 1
  have h2 := bN_lt s 2
  have h3 := bN_lt s 3
  have e0 : vR s v 0 = v := rfl
  have e1 : vR s v 1 = vR s v 0 * 64 + (bN s 1 - 128) := rfl
  have e2 : vR s v 2 = vR s v 1 * 64 + (bN s 2 - 128) := rfl
  have e3 : vR s v 3 = vR s v 2 * 64 + (bN s 3 - 128) := rfl
  have : k = 0 ∨ k = 1 ∨ k = 2 ∨ k = 3 := by omega
  rcases this with rfl | rfl | rfl | rfl <;> omega

set_option maxRecDepth 100000 in
set_option maxHeartbeats 3200000 in
theorem size_any (s : ByteArray) (n : Nat) (v : Int) (h : szR s = (n, v)) (h0 : 0 < s.size) (w : World) :
    Calls Tryz.prog 62 #[.string s] w fun r w' => r = .returned (.tuple #[.int .i64 n, .int .i64 v]) ∧ w' = w := by
  have hb0 := get_bN s 0 h0
  have i0 : (0 : Int) < (s.size : Int) := by omega
  have hx0 := bN_lt s 0
  by_cases k1 : bN s 0 < 128
  · have g : (bN s 0 : Int) < 128 := by omega
    rw [szR_1 k1] at h
    obtain ⟨rfl, rfl⟩ : 1 = n ∧ (bN s 0 : Int) = v := by simpa using h
    clear h
    go_enter Tryz.func62, Tryz.ntmps62
    go_wp2_with fail
    go_ret2
    exact ⟨rfl, rfl⟩
  · have g : ¬ (bN s 0 : Int) < 128 := by omega
    by_cases k2 : bN s 0 < 192
    · have g2 : ¬ (192 : Int) ≤ (bN s 0 : Int) := by omega
      have g3 : ¬ (224 : Int) ≤ (bN s 0 : Int) := by omega
      have g4 : ¬ (240 : Int) ≤ (bN s 0 : Int) := by omega
      rw [szR_0 (by omega) (by omega)] at h
      obtain ⟨rfl, rfl⟩ : 1 = n ∧ -1 = v := by simpa using h
      clear h
      go_enter Tryz.func62, Tryz.ntmps62
      go_wp2_with fail
      go_ret2
      exact ⟨rfl, rfl⟩
    · have g2 : (192 : Int) ≤ (bN s 0 : Int) := by omega
      by_cases k3 : bN s 0 < 224
      · have g3 : (bN s 0 : Int) < 224 := by omega
        have h1 := szR_2 (s := s) (by omega) (by omega)
        rw [h1] at h
        have H := Lib.hid h
        clear h h1
        by_cases hsz : 2 ≤ s.size
        · have g1 : ¬ (s.size : Int) < 2 := by omega
          have e0 : (bN s 0 : Int) - 192 = ((bN s 0 - 192 : Nat) : Int) := by omega
          obtain ⟨v1, hv1⟩ : ∃ v1, bN s 0 - 192 = v1 := ⟨_, rfl⟩
          rw [hv1] at e0
          have hv32 : v1 < 32 := by omega
          have hvt : v1 < 32 := by omega
          rw [hv1] at H
          clear hv1
          have ew : IntKind.i64.wrap (v1 : Int) = (v1 : Int) := by rw [IntKind.wrap_i64]; omega
          go_enter Tryz.func62, Tryz.ntmps62
          go_wp2_with fail
          go_loop [7, 8, 9] (fun t7 t8 _ => ∃ k : Nat, k + 1 ≤ 2 ∧ t8 = .int .i64 ((k : Int) + 1) ∧ t7 = .int .i64 (vR s v1 k) ∧ ∀ j, 1 ≤ j → j ≤ k → contN (bN s j)) (fun _ t8 _ => 2 - (intOf t8).toNat)
          case atStart => exact ⟨0, by omega, rfl, rfl, fun j h1 h2 => absurd h1 (by omega)⟩
          case round =>
            obtain ⟨k, hk, rfl, rfl, hct⟩ := hrel
            have hvk := vR_lt s v1 hv32 k (by omega)
            have HCT := Lib.hid hct
            clear hct
            by_cases hlt : k + 1 < 2
            · have i1 : (k : Int) + 1 < 2 := by omega
              have i2 : (0 : Int) ≤ (k : Int) + 1 := by omega
              have i3 : (k : Int) + 1 < (s.size : Int) := by omega
              have i4 : ((k : Int) + 1).toNat = k + 1 := by omega
              obtain ⟨x, hx⟩ : ∃ x, bN s (k + 1) = x := ⟨_, rfl⟩
              have hx256 : x < 256 := by rw [← hx]; exact bN_lt s (k + 1)
              have hbx := get_bN s (k + 1) (by omega)
              rw [hx] at hbx
              have HX := Lib.hid hx
              clear hx
              obtain ⟨V, hV⟩ : ∃ V, vR s v1 k = V := ⟨_, rfl⟩
              have hVs : vR s v1 (k + 1) = V * 64 + (x - 128) := by
                show vR s v1 k * 64 + (bN s (k + 1) - 128) = _
                rw [hV, HX.out]
              rw [hV] at hvk
              rw [hV]
              have HVS := Lib.hid hVs
              clear hV hVs
              by_cases hx1 : x < 128
              · have j1 : (x : Int) < 128 := by omega
                obtain ⟨rfl, rfl⟩ : 1 = n ∧ -1 = v := by
                  have h1 := H.out
                  rw [if_neg (fun k' => by have hc : contN (bN s (k + 1)) := (by match k, hlt with | 0, _ => exact k'.2.1); rw [HX.out] at hc; unfold contN at hc; omega)] at h1
                  simpa using h1
                go_wp2_with fail
                go_ret2
                exact ⟨rfl, rfl⟩
              · have j1 : ¬ (x : Int) < 128 := by omega
                by_cases hx2 : 192 ≤ x
                · have j2 : (192 : Int) ≤ (x : Int) := by omega
                  obtain ⟨rfl, rfl⟩ : 1 = n ∧ -1 = v := by
                    have h1 := H.out
                    rw [if_neg (fun k' => by have hc : contN (bN s (k + 1)) := (by match k, hlt with | 0, _ => exact k'.2.1); rw [HX.out] at hc; unfold contN at hc; omega)] at h1
                    simpa using h1
                  go_wp2_with fail
                  go_ret2
                  exact ⟨rfl, rfl⟩
                · have j2 : ¬ (192 : Int) ≤ (x : Int) := by omega
                  go_wp2_with fail
                  go_round
                  case rel =>
                    refine ⟨k + 1, by omega, by go_num, ?_, fun j h1 h2 => ?_⟩
                    · rw [HVS.out]
                      go_num
                    · by_cases e : j = k + 1
                      · subst e
                        rw [HX.out]
                        exact ⟨by omega, by omega⟩
                      · exact HCT.out j h1 (by omega)
                  case measure => simp [intOf]; omega
            · obtain rfl : k = 1 := by omega
              have i1 : ¬ (((1 : Nat) : Int) + 1 < 2) := by omega
              have hcc := HCT.out
              have hVb : vR s v1 1 < 2048 := by
                have t1 := hcc 1 (by omega) (by omega)
                unfold contN at t1
                have e1 : vR s v1 1 = v1 * 64 + (bN s 1 - 128) := rfl
                omega
              obtain ⟨V, hV⟩ : ∃ V, vR s v1 1 = V := ⟨_, rfl⟩
              rw [hV] at hvk H hVb
              rw [hV]
              clear hV
              by_cases c0 : V < 128
              · have d0 : (V : Int) < 128 := by omega
                obtain ⟨rfl, rfl⟩ : 1 = n ∧ -1 = v := by
                  have h1 := H.out
                  rw [if_neg (fun k' => by omega)] at h1
                  simpa using h1
                go_wp2_with fail
                go_ret2
                exact ⟨rfl, rfl⟩
              · have d0 : ¬ (V : Int) < 128 := by omega
                have d1 : ¬ (1114111 : Int) < (V : Int) := by omega
                have d2 : ¬ (55296 : Int) ≤ (V : Int) := by omega
                obtain ⟨rfl, rfl⟩ : 2 = n ∧ (V : Int) = v := by
                  have h1 := H.out
                  rw [if_pos ⟨hsz, hcc 1 (by omega) (by omega), (by omega)⟩] at h1
                  simpa using h1
                go_wp2_with fail
                go_ret2
                exact ⟨rfl, rfl⟩
        · have g1 : (s.size : Int) < 2 := by omega
          obtain ⟨rfl, rfl⟩ : 1 = n ∧ -1 = v := by
            have h1 := H.out
            rw [if_neg (fun k' => hsz k'.1)] at h1
            simpa using h1
          go_enter Tryz.func62, Tryz.ntmps62
          go_wp2_with fail
          go_ret2
          exact ⟨rfl, rfl⟩
      · have g3 : ¬ (bN s 0 : Int) < 224 := by omega
        have g3' : (224 : Int) ≤ (bN s 0 : Int) := by omega
        by_cases k4 : bN s 0 < 240
        · have g4 : (bN s 0 : Int) < 240 := by omega
          have h1 := szR_3 (s := s) (by omega) (by omega)
          rw [h1] at h
          have H := Lib.hid h
          clear h h1
          by_cases hsz : 3 ≤ s.size
          · have g1 : ¬ (s.size : Int) < 3 := by omega
            have e0 : (bN s 0 : Int) - 224 = ((bN s 0 - 224 : Nat) : Int) := by omega
            obtain ⟨v1, hv1⟩ : ∃ v1, bN s 0 - 224 = v1 := ⟨_, rfl⟩
            rw [hv1] at e0
            have hv32 : v1 < 32 := by omega
            have hvt : v1 < 16 := by omega
            rw [hv1] at H
            clear hv1
            have ew : IntKind.i64.wrap (v1 : Int) = (v1 : Int) := by rw [IntKind.wrap_i64]; omega
            go_enter Tryz.func62, Tryz.ntmps62
            go_wp2_with fail
            go_loop [7, 8, 9] (fun t7 t8 _ => ∃ k : Nat, k + 1 ≤ 3 ∧ t8 = .int .i64 ((k : Int) + 1) ∧ t7 = .int .i64 (vR s v1 k) ∧ ∀ j, 1 ≤ j → j ≤ k → contN (bN s j)) (fun _ t8 _ => 3 - (intOf t8).toNat)
            case atStart => exact ⟨0, by omega, rfl, rfl, fun j h1 h2 => absurd h1 (by omega)⟩
            case round =>
              obtain ⟨k, hk, rfl, rfl, hct⟩ := hrel
              have hvk := vR_lt s v1 hv32 k (by omega)
              have HCT := Lib.hid hct
              clear hct
              by_cases hlt : k + 1 < 3
              · have i1 : (k : Int) + 1 < 3 := by omega
                have i2 : (0 : Int) ≤ (k : Int) + 1 := by omega
                have i3 : (k : Int) + 1 < (s.size : Int) := by omega
                have i4 : ((k : Int) + 1).toNat = k + 1 := by omega
                obtain ⟨x, hx⟩ : ∃ x, bN s (k + 1) = x := ⟨_, rfl⟩
                have hx256 : x < 256 := by rw [← hx]; exact bN_lt s (k + 1)
                have hbx := get_bN s (k + 1) (by omega)
                rw [hx] at hbx
                have HX := Lib.hid hx
                clear hx
                obtain ⟨V, hV⟩ : ∃ V, vR s v1 k = V := ⟨_, rfl⟩
                have hVs : vR s v1 (k + 1) = V * 64 + (x - 128) := by
                  show vR s v1 k * 64 + (bN s (k + 1) - 128) = _
                  rw [hV, HX.out]
                rw [hV] at hvk
                rw [hV]
                have HVS := Lib.hid hVs
                clear hV hVs
                by_cases hx1 : x < 128
                · have j1 : (x : Int) < 128 := by omega
                  obtain ⟨rfl, rfl⟩ : 1 = n ∧ -1 = v := by
                    have h1 := H.out
                    rw [if_neg (fun k' => by have hc : contN (bN s (k + 1)) := (by match k, hlt with | 0, _ => exact k'.2.1 | 1, _ => exact k'.2.2.1); rw [HX.out] at hc; unfold contN at hc; omega)] at h1
                    simpa using h1
                  go_wp2_with fail
                  go_ret2
                  exact ⟨rfl, rfl⟩
                · have j1 : ¬ (x : Int) < 128 := by omega
                  by_cases hx2 : 192 ≤ x
                  · have j2 : (192 : Int) ≤ (x : Int) := by omega
                    obtain ⟨rfl, rfl⟩ : 1 = n ∧ -1 = v := by
                      have h1 := H.out
                      rw [if_neg (fun k' => by have hc : contN (bN s (k + 1)) := (by match k, hlt with | 0, _ => exact k'.2.1 | 1, _ => exact k'.2.2.1); rw [HX.out] at hc; unfold contN at hc; omega)] at h1
                      simpa using h1
                    go_wp2_with fail
                    go_ret2
                    exact ⟨rfl, rfl⟩
                  · have j2 : ¬ (192 : Int) ≤ (x : Int) := by omega
                    go_wp2_with fail
                    go_round
                    case rel =>
                      refine ⟨k + 1, by omega, by go_num, ?_, fun j h1 h2 => ?_⟩
                      · rw [HVS.out]
                        go_num
                      · by_cases e : j = k + 1
                        · subst e
                          rw [HX.out]
                          exact ⟨by omega, by omega⟩
                        · exact HCT.out j h1 (by omega)
                    case measure => simp [intOf]; omega
              · obtain rfl : k = 2 := by omega
                have i1 : ¬ (((2 : Nat) : Int) + 1 < 3) := by omega
                have hcc := HCT.out
                have hVb : vR s v1 2 < 65536 := by
                  have t1 := hcc 1 (by omega) (by omega)
                  have t2 := hcc 2 (by omega) (by omega)
                  unfold contN at t1 t2
                  have e2 : vR s v1 2 = (v1 * 64 + (bN s 1 - 128)) * 64 + (bN s 2 - 128) := rfl
                  omega
                obtain ⟨V, hV⟩ : ∃ V, vR s v1 2 = V := ⟨_, rfl⟩
                rw [hV] at hvk H hVb
                rw [hV]
                clear hV
                by_cases c0 : V < 2048
                · have d0 : (V : Int) < 2048 := by omega
                  obtain ⟨rfl, rfl⟩ : 1 = n ∧ -1 = v := by
                    have h1 := H.out
                    rw [if_neg (fun k' => by omega)] at h1
                    simpa using h1
                  go_wp2_with fail
                  go_ret2
                  exact ⟨rfl, rfl⟩
                · have d0 : ¬ (V : Int) < 2048 := by omega
                  by_cases c1 : 1114111 < V
                  · have d1 : (1114111 : Int) < (V : Int) := by omega
                    obtain ⟨rfl, rfl⟩ : 1 = n ∧ -1 = v := by
                      have h1 := H.out
                      rw [if_neg (fun k' => by omega)] at h1
                      simpa using h1
                    go_wp2_with fail
                    go_ret2
                    exact ⟨rfl, rfl⟩
                  · have d1 : ¬ (1114111 : Int) < (V : Int) := by omega
                    by_cases c2 : 55296 ≤ V
                    · have d2 : (55296 : Int) ≤ (V : Int) := by omega
                      by_cases c3 : V ≤ 57343
                      · have d3 : (V : Int) ≤ 57343 := by omega
                        obtain ⟨rfl, rfl⟩ : 1 = n ∧ -1 = v := by
                          have h1 := H.out
                          rw [if_neg (fun k' => by omega)] at h1
                          simpa using h1
                        go_wp2_with fail
                        go_ret2
                        exact ⟨rfl, rfl⟩
                      · have d3 : ¬ (V : Int) ≤ 57343 := by omega
                        obtain ⟨rfl, rfl⟩ : 3 = n ∧ (V : Int) = v := by
                          have h1 := H.out
                          rw [if_pos ⟨hsz, hcc 1 (by omega) (by omega), hcc 2 (by omega) (by omega), (by omega), (by omega)⟩] at h1
                          simpa using h1
                        go_wp2_with fail
                        go_ret2
                        exact ⟨rfl, rfl⟩
                    · have d2 : ¬ (55296 : Int) ≤ (V : Int) := by omega
                      obtain ⟨rfl, rfl⟩ : 3 = n ∧ (V : Int) = v := by
                        have h1 := H.out
                        rw [if_pos ⟨hsz, hcc 1 (by omega) (by omega), hcc 2 (by omega) (by omega), (by omega), (by omega)⟩] at h1
                        simpa using h1
                      go_wp2_with fail
                      go_ret2
                      exact ⟨rfl, rfl⟩
          · have g1 : (s.size : Int) < 3 := by omega
            obtain ⟨rfl, rfl⟩ : 1 = n ∧ -1 = v := by
              have h1 := H.out
              rw [if_neg (fun k' => hsz k'.1)] at h1
              simpa using h1
            go_enter Tryz.func62, Tryz.ntmps62
            go_wp2_with fail
            go_ret2
            exact ⟨rfl, rfl⟩
        · have g4 : ¬ (bN s 0 : Int) < 240 := by omega
          have g4' : (240 : Int) ≤ (bN s 0 : Int) := by omega
          by_cases k5 : bN s 0 < 248
          · have g5 : (bN s 0 : Int) < 248 := by omega
            have h1 := szR_4 (s := s) (by omega) (by omega)
            rw [h1] at h
            have H := Lib.hid h
            clear h h1
            by_cases hsz : 4 ≤ s.size
            · have g1 : ¬ (s.size : Int) < 4 := by omega
              have e0 : (bN s 0 : Int) - 240 = ((bN s 0 - 240 : Nat) : Int) := by omega
              obtain ⟨v1, hv1⟩ : ∃ v1, bN s 0 - 240 = v1 := ⟨_, rfl⟩
              rw [hv1] at e0
              have hv32 : v1 < 32 := by omega
              have hvt : v1 < 8 := by omega
              rw [hv1] at H
              clear hv1
              have ew : IntKind.i64.wrap (v1 : Int) = (v1 : Int) := by rw [IntKind.wrap_i64]; omega
              go_enter Tryz.func62, Tryz.ntmps62
              go_wp2_with fail
              go_loop [7, 8, 9] (fun t7 t8 _ => ∃ k : Nat, k + 1 ≤ 4 ∧ t8 = .int .i64 ((k : Int) + 1) ∧ t7 = .int .i64 (vR s v1 k) ∧ ∀ j, 1 ≤ j → j ≤ k → contN (bN s j)) (fun _ t8 _ => 4 - (intOf t8).toNat)
              case atStart => exact ⟨0, by omega, rfl, rfl, fun j h1 h2 => absurd h1 (by omega)⟩
              case round =>
                obtain ⟨k, hk, rfl, rfl, hct⟩ := hrel
                have hvk := vR_lt s v1 hv32 k (by omega)
                have HCT := Lib.hid hct
                clear hct
                by_cases hlt : k + 1 < 4
                · have i1 : (k : Int) + 1 < 4 := by omega
                  have i2 : (0 : Int) ≤ (k : Int) + 1 := by omega
                  have i3 : (k : Int) + 1 < (s.size : Int) := by omega
                  have i4 : ((k : Int) + 1).toNat = k + 1 := by omega
                  obtain ⟨x, hx⟩ : ∃ x, bN s (k + 1) = x := ⟨_, rfl⟩
                  have hx256 : x < 256 := by rw [← hx]; exact bN_lt s (k + 1)
                  have hbx := get_bN s (k + 1) (by omega)
                  rw [hx] at hbx
                  have HX := Lib.hid hx
                  clear hx
                  obtain ⟨V, hV⟩ : ∃ V, vR s v1 k = V := ⟨_, rfl⟩
                  have hVs : vR s v1 (k + 1) = V * 64 + (x - 128) := by
                    show vR s v1 k * 64 + (bN s (k + 1) - 128) = _
                    rw [hV, HX.out]
                  rw [hV] at hvk
                  rw [hV]
                  have HVS := Lib.hid hVs
                  clear hV hVs
                  by_cases hx1 : x < 128
                  · have j1 : (x : Int) < 128 := by omega
                    obtain ⟨rfl, rfl⟩ : 1 = n ∧ -1 = v := by
                      have h1 := H.out
                      rw [if_neg (fun k' => by have hc : contN (bN s (k + 1)) := (by match k, hlt with | 0, _ => exact k'.2.1 | 1, _ => exact k'.2.2.1 | 2, _ => exact k'.2.2.2.1); rw [HX.out] at hc; unfold contN at hc; omega)] at h1
                      simpa using h1
                    go_wp2_with fail
                    go_ret2
                    exact ⟨rfl, rfl⟩
                  · have j1 : ¬ (x : Int) < 128 := by omega
                    by_cases hx2 : 192 ≤ x
                    · have j2 : (192 : Int) ≤ (x : Int) := by omega
                      obtain ⟨rfl, rfl⟩ : 1 = n ∧ -1 = v := by
                        have h1 := H.out
                        rw [if_neg (fun k' => by have hc : contN (bN s (k + 1)) := (by match k, hlt with | 0, _ => exact k'.2.1 | 1, _ => exact k'.2.2.1 | 2, _ => exact k'.2.2.2.1); rw [HX.out] at hc; unfold contN at hc; omega)] at h1
                        simpa using h1
                      go_wp2_with fail
                      go_ret2
                      exact ⟨rfl, rfl⟩
                    · have j2 : ¬ (192 : Int) ≤ (x : Int) := by omega
                      go_wp2_with fail
                      go_round
                      case rel =>
                        refine ⟨k + 1, by omega, by go_num, ?_, fun j h1 h2 => ?_⟩
                        · rw [HVS.out]
                          go_num
                        · by_cases e : j = k + 1
                          · subst e
                            rw [HX.out]
                            exact ⟨by omega, by omega⟩
                          · exact HCT.out j h1 (by omega)
                      case measure => simp [intOf]; omega
                · obtain rfl : k = 3 := by omega
                  have i1 : ¬ (((3 : Nat) : Int) + 1 < 4) := by omega
                  have hcc := HCT.out
                  have hVb : vR s v1 3 < 9999999999 := by omega
                  obtain ⟨V, hV⟩ : ∃ V, vR s v1 3 = V := ⟨_, rfl⟩
                  rw [hV] at hvk H hVb
                  rw [hV]
                  clear hV
                  by_cases c0 : V < 65536
                  · have d0 : (V : Int) < 65536 := by omega
                    obtain ⟨rfl, rfl⟩ : 1 = n ∧ -1 = v := by
                      have h1 := H.out
                      rw [if_neg (fun k' => by omega)] at h1
                      simpa using h1
                    go_wp2_with fail
                    go_ret2
                    exact ⟨rfl, rfl⟩
                  · have d0 : ¬ (V : Int) < 65536 := by omega
                    by_cases c1 : 1114111 < V
                    · have d1 : (1114111 : Int) < (V : Int) := by omega
                      obtain ⟨rfl, rfl⟩ : 1 = n ∧ -1 = v := by
                        have h1 := H.out
                        rw [if_neg (fun k' => by omega)] at h1
                        simpa using h1
                      go_wp2_with fail
                      go_ret2
                      exact ⟨rfl, rfl⟩
                    · have d1 : ¬ (1114111 : Int) < (V : Int) := by omega
                      by_cases c2 : 55296 ≤ V
                      · have d2 : (55296 : Int) ≤ (V : Int) := by omega
                        by_cases c3 : V ≤ 57343
                        · have d3 : (V : Int) ≤ 57343 := by omega
                          obtain ⟨rfl, rfl⟩ : 1 = n ∧ -1 = v := by
                            have h1 := H.out
                            rw [if_neg (fun k' => by omega)] at h1
                            simpa using h1
                          go_wp2_with fail
                          go_ret2
                          exact ⟨rfl, rfl⟩
                        · have d3 : ¬ (V : Int) ≤ 57343 := by omega
                          obtain ⟨rfl, rfl⟩ : 4 = n ∧ (V : Int) = v := by
                            have h1 := H.out
                            rw [if_pos ⟨hsz, hcc 1 (by omega) (by omega), hcc 2 (by omega) (by omega), hcc 3 (by omega) (by omega), (by omega), (by omega)⟩] at h1
                            simpa using h1
                          go_wp2_with fail
                          go_ret2
                          exact ⟨rfl, rfl⟩
                      · have d2 : ¬ (55296 : Int) ≤ (V : Int) := by omega
                        obtain ⟨rfl, rfl⟩ : 4 = n ∧ (V : Int) = v := by
                          have h1 := H.out
                          rw [if_pos ⟨hsz, hcc 1 (by omega) (by omega), hcc 2 (by omega) (by omega), hcc 3 (by omega) (by omega), (by omega), (by omega)⟩] at h1
                          simpa using h1
                        go_wp2_with fail
                        go_ret2
                        exact ⟨rfl, rfl⟩
            · have g1 : (s.size : Int) < 4 := by omega
              obtain ⟨rfl, rfl⟩ : 1 = n ∧ -1 = v := by
                have h1 := H.out
                rw [if_neg (fun k' => hsz k'.1)] at h1
                simpa using h1
              go_enter Tryz.func62, Tryz.ntmps62
              go_wp2_with fail
              go_ret2
              exact ⟨rfl, rfl⟩
          · have g5 : ¬ (bN s 0 : Int) < 248 := by omega
            rw [szR_0 (by omega) (by omega)] at h
            obtain ⟨rfl, rfl⟩ : 1 = n ∧ -1 = v := by simpa using h
            clear h
            go_enter Tryz.func62, Tryz.ntmps62
            go_wp2_with fail
            go_ret2
            exact ⟨rfl, rfl⟩
end Go.Proofs.YtflojipkgaocnaaGreatDoor
namespace Go.Proofs.YtflojipkgaocnaaGreatDoor
open Go.RowKit

def runesGo (s : ByteArray) : Nat → Nat → List Int
  | 0, _ => []
  | f + 1, p => if p < s.size then (szR (s.extract p s.size)).2 :: runesGo s f (p + (szR (s.extract p s.size)).1) else []
def runesL (s : ByteArray) : List Int := runesGo s s.size 0
theorem szR_pos (s : ByteArray) (h : 0 < s.size) : 1 ≤ (szR s).1 := by
  unfold szR
  split
  · exact Nat.le_refl _
  · exact Lib.decode_width_pos s 0 h
theorem szR_tail (s : ByteArray) (p : Nat) : szR (s.extract p s.size) = if wrongR (Utf8.decode s p) = true then ((1, -1) : Nat × Int) else ((Utf8.decode s p).2, ((Utf8.decode s p).1 : Int)) := by
  unfold szR
  rw [Lib.tail_decode]
  rfl
def okI (r : Int) : Bool := (decide (97 ≤ r) && decide (r ≤ 122)) || (decide (65 ≤ r) && decide (r ≤ 90)) || (decide (48 ≤ r) && decide (r ≤ 57)) || decide (r = 45) || decide (r = 95) || decide (r = 46) || decide (160 ≤ r)
theorem okI_nat (n : Nat) : okI (n : Int) = namedR n := by
  rw [Bool.eq_iff_iff]
  simp only [okI, namedR, Bool.or_eq_true, Bool.and_eq_true, decide_eq_true_eq]
  omega
theorem name_runes (s : ByteArray) : ∀ (f k p : Nat) (any : Bool), s.size - p ≤ f → nameGo s k p any = (decide ((runesGo s f p).length ≤ k) && (any || decide (0 < (runesGo s f p).length)) && (runesGo s f p).all okI)
  | 0, k, p, any, hf => by
    have hp : ¬ p < s.size := by omega
    cases k with
    | zero => simp [nameGo, runesGo, hp]
    | succ k => simp [nameGo, runesGo, hp]
  | f + 1, k, p, any, hf => by
    by_cases hp : p < s.size
    · have hw := szR_pos (s.extract p s.size) (by rw [ByteArray.size_extract]; omega)
      cases k with
      | zero => simp [nameGo, runesGo, hp]
      | succ k =>
        have ih := name_runes s f k (p + (szR (s.extract p s.size)).1) true (by omega)
        rw [nameGo, if_pos hp, runesGo, if_pos hp]
        rw [szR_tail] at ih hw ⊢
        by_cases hwr : wrongR (Utf8.decode s p) = true
        · rw [if_pos (.inr hwr), if_pos hwr]
          have : okI (-1) = false := by decide
          simp [this]
        · rw [if_neg hwr] at ih ⊢
          simp only at ih ⊢
          cases hn : namedR (Utf8.decode s p).1 with
          | false =>
            rw [if_pos (.inl rfl)]
            have : okI ((Utf8.decode s p).1 : Int) = false := by rw [okI_nat]; exact hn
            simp [this]
          | true =>
            rw [if_neg (by simp [hwr])]
            have : okI ((Utf8.decode s p).1 : Int) = true := by rw [okI_nat]; exact hn
            rw [ih]
            simp [this]
    · cases k with
      | zero => simp [nameGo, runesGo, hp]
      | succ k => simp [nameGo, runesGo, hp]
theorem nameB_runes (s : ByteArray) : nameB s = (decide ((runesL s).length ≤ 32) && decide (0 < (runesL s).length) && (runesL s).all okI) := by
  have h := name_runes s s.size 32 0 false (by omega)
  unfold nameB runesL
  rw [h]
  simp
theorem runesGo_len (s : ByteArray) : ∀ f p, (runesGo s f p).length ≤ f
  | 0, _ => Nat.le_refl _
  | f + 1, p => by
    rw [runesGo]
    split
    · have := runesGo_len s f (p + (szR (s.extract p s.size)).1)
      simp only [List.length_cons]
      omega
    · simp

theorem Tryz.iinfo : (Tryz.prog.info? 3).map (fun i => (i.zero, i.size, i.bytes)) = some (some (.int .i64 0), 1, 8) := by kernel_rfl
def icl (l : List Int) : List Value := l.map (Value.int .i64)
theorem icl_append (l m : List Int) : icl (l ++ m) = icl l ++ icl m := by simp [icl]

set_option maxRecDepth 100000 in
set_option maxHeartbeats 1600000 in
theorem runes_any (s : ByteArray) (hs : s.size ≤ 100000) (w : World) :
    Calls Tryz.prog 36 #[.string s] w fun r w' => ∃ v, r = .returned v ∧ w'.ownsRow w.heap.size 3 1 v (runesL s).length (icl (runesL s)) ∧ Below w.heap.size w w' := by
  obtain ⟨i0, hi0, hz0, hz1, hz2⟩ := info_parts Tryz.iinfo
  go_enter Tryz.func36, Tryz.ntmps36
  go_wp2_with fail
  go_loopw [3, 4, 5, 6] (fun t3 t4 _ _ wr => ∃ (p f : Nat) (acc : List Int), p ≤ s.size + 4 ∧ s.size - p ≤ f ∧ t4 = .int .i64 p ∧ runesL s = acc ++ runesGo s f p ∧ acc.length ≤ p ∧ wr.ownsRow w.heap.size 3 1 t3 acc.length (icl acc) ∧ Below w.heap.size w wr) (fun _ t4 _ _ _ => s.size - (intOf t4).toNat)
  case atStart => exact ⟨0, s.size, [], by omega, by omega, rfl, rfl, Nat.le_refl _, World.ownsRow_nil _ _ _ _, Below.refl _ _⟩
  case round =>
    obtain ⟨p, f, acc, hp0, hf, rfl, hru, hal, hown, hb⟩ := hrel
    have HOWN := Lib.hid hown
    have HRU := Lib.hid hru
    clear hown hru
    by_cases hp : p < s.size
    · obtain ⟨f', rfl⟩ : ∃ f', f = f' + 1 := ⟨f - 1, by omega⟩
      have htl : 0 < (s.extract p s.size).size := by rw [ByteArray.size_extract]; omega
      obtain ⟨⟨n, r⟩, hnr⟩ : ∃ x, szR (s.extract p s.size) = x := ⟨_, rfl⟩
      have hn1 := szR_pos _ htl
      rw [hnr] at hn1
      simp only at hn1
      have hn4 : n ≤ 4 := by
        have h1 := szR_tail s p
        rw [hnr] at h1
        split at h1
        · have := congrArg Prod.fst h1
          simp only at this
          omega
        · have h2 := congrArg Prod.fst h1
          simp only at h2
          rw [h2]
          unfold Utf8.decode
          simp only
          repeat' split
          all_goals simp
      have hrg : runesGo s (f' + 1) p = r :: runesGo s f' (p + n) := by
        rw [runesGo, if_pos hp, hnr]
      have CS := Lib.hid (size_any (s.extract p s.size) n r hnr htl)
      have i1 : (p : Int) < (s.size : Int) := by omega
      have i2 : (0 : Int) ≤ (p : Int) := by omega
      have i3 : (p : Int) ≤ (s.size : Int) := by omega
      have HRG := Lib.hid hrg
      have hsz : wr.heap.size ≥ w.heap.size := hb.size
      have hown2 := own_below ((Below.refl wr.heap.size wr).alloc (Nat.le_refl _) (.cells #[.int .i64 r] 3)) HOWN.out
      have HO2 := Lib.hid hown2
      clear hnr hrg htl hown2
      go_wp2_with fail
      refine (CS.out _).mono ?_
      rintro e w1 ⟨rfl, rfl⟩
      go_wp2_with (at_builtin; refine wpList_append_lies _ rfl _ _ 23 rfl w.heap.size 3 i0 _ 1 8 Tryz.underlying23 hi0 hz0 hz1 hz2 rfl (by omega) _ _ _ rfl HO2.out ⟨w1.heap.size, 0, none⟩ 1 1 [.int .i64 r] rfl rfl (World.news_of_block (heap_alloc_new w1 _)) (by simp [Value.oneCell']) (by omega) (by unfold maxLen; omega) (by omega) (by simp only [World.size_alloc]; omega) _ rfl ?_; intro gg cap2 w8 hown8 hgrow hat hlt8)
      go_roundw
      case rel =>
        refine ⟨p + n, f', acc ++ [r], by omega, by omega, by go_num, by rw [HRU.out, HRG.out]; simp, by rw [List.length_append]; simp only [List.length_cons, List.length_nil]; omega, ?_, ?_⟩
        · rw [icl_append, List.length_append]
          exact hown8
        · exact (hb.alloc hsz _).grown hgrow (by simp only [World.size_alloc]; omega) (fun j hj => (HO2.out.lt j hj).1)
      case measure => simp [intOf]; omega
    · have i1 : ¬ (p : Int) < (s.size : Int) := by omega
      have hnil : runesGo s f p = [] := by
        cases f with
        | zero => rfl
        | succ f => rw [runesGo, if_neg hp]
      rw [hnil, List.append_nil] at HRU
      go_wp2_with fail
      go_ret
      exact ⟨_, rfl, by rw [HRU.out]; exact HOWN.out, hb⟩

set_option maxRecDepth 100000 in
set_option maxHeartbeats 3200000 in
theorem refName_any (s : ByteArray) (hs : s.size ≤ 100000) (b : Bool) (hb : nameB s = b) (w : World) :
    Calls Tryz.prog 19 #[.string s] w fun r w' => r = .returned (.bool b) ∧ Below w.heap.size w w' := by
  rw [nameB_runes] at hb
  have C := Lib.hid (runes_any s hs w)
  have hlen : (runesL s).length ≤ 100000 := Nat.le_trans (runesGo_len s s.size 0) hs
  obtain ⟨l, hl⟩ : ∃ l, runesL s = l := ⟨_, rfl⟩
  rw [hl] at C hb hlen
  have HB := Lib.hid hb
  clear hb hl
  by_cases h1 : l.length < 1
  · have g1 : (l.length : Int) < 1 := by omega
    obtain rfl : false = b := by rw [← HB.out, decide_eq_false (show ¬ 0 < l.length by omega)]; simp
    go_enter Tryz.func19, Tryz.ntmps19
    go_wp2_with fail
    refine C.out.mono ?_
    rintro r w1 ⟨v, rfl, hown, hb1⟩
    obtain ⟨va, vc, rfl⟩ : ∃ a c, v = .slice a l.length c := by
      rcases hown.2 with ⟨hv, h0⟩ | ⟨g, cap, cur, hv, _⟩
      · exact ⟨none, 0, by rw [hv, h0]⟩
      · exact ⟨_, _, hv⟩
    clear hown
    go_wp2_with fail
    go_ret
    exact ⟨rfl, hb1⟩
  · have g1 : ¬ (l.length : Int) < 1 := by omega
    by_cases h2 : 32 < l.length
    · have g2 : (32 : Int) < (l.length : Int) := by omega
      obtain rfl : false = b := by rw [← HB.out, decide_eq_false (show ¬ l.length ≤ 32 by omega)]; simp
      go_enter Tryz.func19, Tryz.ntmps19
      go_wp2_with fail
      refine C.out.mono ?_
      rintro r w1 ⟨v, rfl, hown, hb1⟩
      obtain ⟨va, vc, rfl⟩ : ∃ a c, v = .slice a l.length c := by
        rcases hown.2 with ⟨hv, h0⟩ | ⟨g, cap, cur, hv, _⟩
        · exact ⟨none, 0, by rw [hv, h0]⟩
        · exact ⟨_, _, hv⟩
      clear hown
      go_wp2_with fail
      go_ret
      exact ⟨rfl, hb1⟩
    · have g2 : ¬ (32 : Int) < (l.length : Int) := by omega
      go_enter Tryz.func19, Tryz.ntmps19
      go_wp2_with fail
      refine C.out.mono ?_
      rintro r w1 ⟨v, rfl, hown, hb1⟩
      obtain ⟨g, vc, rfl, hg, hglt⟩ := hown.form (show 0 < l.length by omega)
      have hcell : ∀ j (hj : j < l.length), w1.cell? ⟨g, j, none⟩ = some (.int .i64 l[j]) := fun j hj => by
        have h5 := hown.cells (g := g) rfl j (.int .i64 l[j]) (by simp [icl, hj])
        rwa [show (⟨g, 0, none⟩ : Addr).add j = ⟨g, j, none⟩ by unfold Addr.add; split <;> simp_all] at h5
      have HCL := Lib.hid hcell
      clear hown hcell
      go_wp2_with fail
      go_loop [4, 5] (fun t4 _ => ∃ k : Nat, k ≤ l.length ∧ t4 = .int .i64 k ∧ (∀ i (hi : i < l.length), i < k → okI l[i] = true)) (fun t4 _ => l.length - (intOf t4).toNat)
      case atStart => exact ⟨0, Nat.zero_le _, rfl, fun i _ h => absurd h (by omega)⟩
      case round =>
        obtain ⟨k, hk, rfl, hno⟩ := hrel
        have HNO := Lib.hid hno
        clear hno
        by_cases hlt : k < l.length
        · have hck := HCL.out k hlt
          obtain ⟨r, hr⟩ : ∃ r, l[k] = r := ⟨_, rfl⟩
          rw [hr] at hck
          have HR := Lib.hid hr
          clear hr
          have i1 : (0 : Int) ≤ (k : Int) := by omega
          have i2 : (k : Int) < (l.length : Int) := by omega
          by_cases c0 : r ≤ 44
          · have a97 : ¬ (97 : Int) ≤ r := by omega
            have a65 : ¬ (65 : Int) ≤ r := by omega
            have a48 : ¬ (48 : Int) ≤ r := by omega
            have b122 : r ≤ (122 : Int) := by omega
            have b90 : r ≤ (90 : Int) := by omega
            have b57 : r ≤ (57 : Int) := by omega
            have n45 : (r != 45) = true := by rw [bne_iff_ne]; omega
            have n95 : (r != 95) = true := by rw [bne_iff_ne]; omega
            have n46 : (r != 46) = true := by rw [bne_iff_ne]; omega
            have l160 : r < (160 : Int) := by omega
            have hok : okI r = false := by
              rw [← Bool.not_eq_true]
              simp only [okI, Bool.or_eq_true, Bool.and_eq_true, decide_eq_true_eq]
              omega
            obtain rfl : false = b := by
              rw [← HB.out]
              symm
              rw [Bool.and_eq_false_iff]
              right
              rw [List.all_eq_false]
              exact ⟨_, List.getElem_mem hlt, by rw [HR.out, hok]; decide⟩
            clear hok
            go_wp2_with fail
            go_ret
            exact ⟨rfl, hb1⟩
          · by_cases c1 : r = 45
            · have a97 : ¬ (97 : Int) ≤ r := by omega
              have a65 : ¬ (65 : Int) ≤ r := by omega
              have a48 : ¬ (48 : Int) ≤ r := by omega
              have b122 : r ≤ (122 : Int) := by omega
              have b90 : r ≤ (90 : Int) := by omega
              have b57 : r ≤ (57 : Int) := by omega
              have n45 : (r != 45) = false := by rw [bne_eq_false_iff_eq]; omega
              have n95 : (r != 95) = true := by rw [bne_iff_ne]; omega
              have n46 : (r != 46) = true := by rw [bne_iff_ne]; omega
              have l160 : r < (160 : Int) := by omega
              have hok : okI r = true := by
                simp only [okI, Bool.or_eq_true, Bool.and_eq_true, decide_eq_true_eq]
                omega
              have HOK := Lib.hid hok
              clear hok
              go_wp2_with fail
              go_round
              case rel =>
                refine ⟨k + 1, by omega, by go_num, fun i hi hik => ?_⟩
                by_cases e : i = k
                · subst e
                  rw [HR.out]
                  exact HOK.out
                · exact HNO.out i hi (by omega)
              case measure => simp [intOf]; omega
            · by_cases c2 : r = 46
              · have a97 : ¬ (97 : Int) ≤ r := by omega
                have a65 : ¬ (65 : Int) ≤ r := by omega
                have a48 : ¬ (48 : Int) ≤ r := by omega
                have b122 : r ≤ (122 : Int) := by omega
                have b90 : r ≤ (90 : Int) := by omega
                have b57 : r ≤ (57 : Int) := by omega
                have n45 : (r != 45) = true := by rw [bne_iff_ne]; omega
                have n95 : (r != 95) = true := by rw [bne_iff_ne]; omega
                have n46 : (r != 46) = false := by rw [bne_eq_false_iff_eq]; omega
                have l160 : r < (160 : Int) := by omega
                have hok : okI r = true := by
                  simp only [okI, Bool.or_eq_true, Bool.and_eq_true, decide_eq_true_eq]
                  omega
                have HOK := Lib.hid hok
                clear hok
                go_wp2_with fail
                go_round
                case rel =>
                  refine ⟨k + 1, by omega, by go_num, fun i hi hik => ?_⟩
                  by_cases e : i = k
                  · subst e
                    rw [HR.out]
                    exact HOK.out
                  · exact HNO.out i hi (by omega)
                case measure => simp [intOf]; omega
              · by_cases c3 : r = 47
                · have a97 : ¬ (97 : Int) ≤ r := by omega
                  have a65 : ¬ (65 : Int) ≤ r := by omega
                  have a48 : ¬ (48 : Int) ≤ r := by omega
                  have b122 : r ≤ (122 : Int) := by omega
                  have b90 : r ≤ (90 : Int) := by omega
                  have b57 : r ≤ (57 : Int) := by omega
                  have n45 : (r != 45) = true := by rw [bne_iff_ne]; omega
                  have n95 : (r != 95) = true := by rw [bne_iff_ne]; omega
                  have n46 : (r != 46) = true := by rw [bne_iff_ne]; omega
                  have l160 : r < (160 : Int) := by omega
                  have hok : okI r = false := by
                    rw [← Bool.not_eq_true]
                    simp only [okI, Bool.or_eq_true, Bool.and_eq_true, decide_eq_true_eq]
                    omega
                  obtain rfl : false = b := by
                    rw [← HB.out]
                    symm
                    rw [Bool.and_eq_false_iff]
                    right
                    rw [List.all_eq_false]
                    exact ⟨_, List.getElem_mem hlt, by rw [HR.out, hok]; decide⟩
                  clear hok
                  go_wp2_with fail
                  go_ret
                  exact ⟨rfl, hb1⟩
                · by_cases c4 : r ≤ 57
                  · have a97 : ¬ (97 : Int) ≤ r := by omega
                    have a65 : ¬ (65 : Int) ≤ r := by omega
                    have a48 : (48 : Int) ≤ r := by omega
                    have b122 : r ≤ (122 : Int) := by omega
                    have b90 : r ≤ (90 : Int) := by omega
                    have b57 : r ≤ (57 : Int) := by omega
                    have n45 : (r != 45) = true := by rw [bne_iff_ne]; omega
                    have n95 : (r != 95) = true := by rw [bne_iff_ne]; omega
                    have n46 : (r != 46) = true := by rw [bne_iff_ne]; omega
                    have l160 : r < (160 : Int) := by omega
                    have hok : okI r = true := by
                      simp only [okI, Bool.or_eq_true, Bool.and_eq_true, decide_eq_true_eq]
                      omega
                    have HOK := Lib.hid hok
                    clear hok
                    go_wp2_with fail
                    go_round
                    case rel =>
                      refine ⟨k + 1, by omega, by go_num, fun i hi hik => ?_⟩
                      by_cases e : i = k
                      · subst e
                        rw [HR.out]
                        exact HOK.out
                      · exact HNO.out i hi (by omega)
                    case measure => simp [intOf]; omega
                  · by_cases c5 : r ≤ 64
                    · have a97 : ¬ (97 : Int) ≤ r := by omega
                      have a65 : ¬ (65 : Int) ≤ r := by omega
                      have a48 : (48 : Int) ≤ r := by omega
                      have b122 : r ≤ (122 : Int) := by omega
                      have b90 : r ≤ (90 : Int) := by omega
                      have b57 : ¬ r ≤ (57 : Int) := by omega
                      have n45 : (r != 45) = true := by rw [bne_iff_ne]; omega
                      have n95 : (r != 95) = true := by rw [bne_iff_ne]; omega
                      have n46 : (r != 46) = true := by rw [bne_iff_ne]; omega
                      have l160 : r < (160 : Int) := by omega
                      have hok : okI r = false := by
                        rw [← Bool.not_eq_true]
                        simp only [okI, Bool.or_eq_true, Bool.and_eq_true, decide_eq_true_eq]
                        omega
                      obtain rfl : false = b := by
                        rw [← HB.out]
                        symm
                        rw [Bool.and_eq_false_iff]
                        right
                        rw [List.all_eq_false]
                        exact ⟨_, List.getElem_mem hlt, by rw [HR.out, hok]; decide⟩
                      clear hok
                      go_wp2_with fail
                      go_ret
                      exact ⟨rfl, hb1⟩
                    · by_cases c6 : r ≤ 90
                      · have a97 : ¬ (97 : Int) ≤ r := by omega
                        have a65 : (65 : Int) ≤ r := by omega
                        have a48 : (48 : Int) ≤ r := by omega
                        have b122 : r ≤ (122 : Int) := by omega
                        have b90 : r ≤ (90 : Int) := by omega
                        have b57 : ¬ r ≤ (57 : Int) := by omega
                        have n45 : (r != 45) = true := by rw [bne_iff_ne]; omega
                        have n95 : (r != 95) = true := by rw [bne_iff_ne]; omega
                        have n46 : (r != 46) = true := by rw [bne_iff_ne]; omega
                        have l160 : r < (160 : Int) := by omega
                        have hok : okI r = true := by
                          simp only [okI, Bool.or_eq_true, Bool.and_eq_true, decide_eq_true_eq]
                          omega
                        have HOK := Lib.hid hok
                        clear hok
                        go_wp2_with fail
                        go_round
                        case rel =>
                          refine ⟨k + 1, by omega, by go_num, fun i hi hik => ?_⟩
                          by_cases e : i = k
                          · subst e
                            rw [HR.out]
                            exact HOK.out
                          · exact HNO.out i hi (by omega)
                        case measure => simp [intOf]; omega
                      · by_cases c7 : r ≤ 94
                        · have a97 : ¬ (97 : Int) ≤ r := by omega
                          have a65 : (65 : Int) ≤ r := by omega
                          have a48 : (48 : Int) ≤ r := by omega
                          have b122 : r ≤ (122 : Int) := by omega
                          have b90 : ¬ r ≤ (90 : Int) := by omega
                          have b57 : ¬ r ≤ (57 : Int) := by omega
                          have n45 : (r != 45) = true := by rw [bne_iff_ne]; omega
                          have n95 : (r != 95) = true := by rw [bne_iff_ne]; omega
                          have n46 : (r != 46) = true := by rw [bne_iff_ne]; omega
                          have l160 : r < (160 : Int) := by omega
                          have hok : okI r = false := by
                            rw [← Bool.not_eq_true]
                            simp only [okI, Bool.or_eq_true, Bool.and_eq_true, decide_eq_true_eq]
                            omega
                          obtain rfl : false = b := by
                            rw [← HB.out]
                            symm
                            rw [Bool.and_eq_false_iff]
                            right
                            rw [List.all_eq_false]
                            exact ⟨_, List.getElem_mem hlt, by rw [HR.out, hok]; decide⟩
                          clear hok
                          go_wp2_with fail
                          go_ret
                          exact ⟨rfl, hb1⟩
                        · by_cases c8 : r = 95
                          · have a97 : ¬ (97 : Int) ≤ r := by omega
                            have a65 : (65 : Int) ≤ r := by omega
                            have a48 : (48 : Int) ≤ r := by omega
                            have b122 : r ≤ (122 : Int) := by omega
                            have b90 : ¬ r ≤ (90 : Int) := by omega
                            have b57 : ¬ r ≤ (57 : Int) := by omega
                            have n45 : (r != 45) = true := by rw [bne_iff_ne]; omega
                            have n95 : (r != 95) = false := by rw [bne_eq_false_iff_eq]; omega
                            have n46 : (r != 46) = true := by rw [bne_iff_ne]; omega
                            have l160 : r < (160 : Int) := by omega
                            have hok : okI r = true := by
                              simp only [okI, Bool.or_eq_true, Bool.and_eq_true, decide_eq_true_eq]
                              omega
                            have HOK := Lib.hid hok
                            clear hok
                            go_wp2_with fail
                            go_round
                            case rel =>
                              refine ⟨k + 1, by omega, by go_num, fun i hi hik => ?_⟩
                              by_cases e : i = k
                              · subst e
                                rw [HR.out]
                                exact HOK.out
                              · exact HNO.out i hi (by omega)
                            case measure => simp [intOf]; omega
                          · by_cases c9 : r = 96
                            · have a97 : ¬ (97 : Int) ≤ r := by omega
                              have a65 : (65 : Int) ≤ r := by omega
                              have a48 : (48 : Int) ≤ r := by omega
                              have b122 : r ≤ (122 : Int) := by omega
                              have b90 : ¬ r ≤ (90 : Int) := by omega
                              have b57 : ¬ r ≤ (57 : Int) := by omega
                              have n45 : (r != 45) = true := by rw [bne_iff_ne]; omega
                              have n95 : (r != 95) = true := by rw [bne_iff_ne]; omega
                              have n46 : (r != 46) = true := by rw [bne_iff_ne]; omega
                              have l160 : r < (160 : Int) := by omega
                              have hok : okI r = false := by
                                rw [← Bool.not_eq_true]
                                simp only [okI, Bool.or_eq_true, Bool.and_eq_true, decide_eq_true_eq]
                                omega
                              obtain rfl : false = b := by
                                rw [← HB.out]
                                symm
                                rw [Bool.and_eq_false_iff]
                                right
                                rw [List.all_eq_false]
                                exact ⟨_, List.getElem_mem hlt, by rw [HR.out, hok]; decide⟩
                              clear hok
                              go_wp2_with fail
                              go_ret
                              exact ⟨rfl, hb1⟩
                            · by_cases c10 : r ≤ 122
                              · have a97 : (97 : Int) ≤ r := by omega
                                have a65 : (65 : Int) ≤ r := by omega
                                have a48 : (48 : Int) ≤ r := by omega
                                have b122 : r ≤ (122 : Int) := by omega
                                have b90 : ¬ r ≤ (90 : Int) := by omega
                                have b57 : ¬ r ≤ (57 : Int) := by omega
                                have n45 : (r != 45) = true := by rw [bne_iff_ne]; omega
                                have n95 : (r != 95) = true := by rw [bne_iff_ne]; omega
                                have n46 : (r != 46) = true := by rw [bne_iff_ne]; omega
                                have l160 : r < (160 : Int) := by omega
                                have hok : okI r = true := by
                                  simp only [okI, Bool.or_eq_true, Bool.and_eq_true, decide_eq_true_eq]
                                  omega
                                have HOK := Lib.hid hok
                                clear hok
                                go_wp2_with fail
                                go_round
                                case rel =>
                                  refine ⟨k + 1, by omega, by go_num, fun i hi hik => ?_⟩
                                  by_cases e : i = k
                                  · subst e
                                    rw [HR.out]
                                    exact HOK.out
                                  · exact HNO.out i hi (by omega)
                                case measure => simp [intOf]; omega
                              · by_cases c11 : r ≤ 159
                                · have a97 : (97 : Int) ≤ r := by omega
                                  have a65 : (65 : Int) ≤ r := by omega
                                  have a48 : (48 : Int) ≤ r := by omega
                                  have b122 : ¬ r ≤ (122 : Int) := by omega
                                  have b90 : ¬ r ≤ (90 : Int) := by omega
                                  have b57 : ¬ r ≤ (57 : Int) := by omega
                                  have n45 : (r != 45) = true := by rw [bne_iff_ne]; omega
                                  have n95 : (r != 95) = true := by rw [bne_iff_ne]; omega
                                  have n46 : (r != 46) = true := by rw [bne_iff_ne]; omega
                                  have l160 : r < (160 : Int) := by omega
                                  have hok : okI r = false := by
                                    rw [← Bool.not_eq_true]
                                    simp only [okI, Bool.or_eq_true, Bool.and_eq_true, decide_eq_true_eq]
                                    omega
                                  obtain rfl : false = b := by
                                    rw [← HB.out]
                                    symm
                                    rw [Bool.and_eq_false_iff]
                                    right
                                    rw [List.all_eq_false]
                                    exact ⟨_, List.getElem_mem hlt, by rw [HR.out, hok]; decide⟩
                                  clear hok
                                  go_wp2_with fail
                                  go_ret
                                  exact ⟨rfl, hb1⟩
                                · have c12 : 160 ≤ r := by omega
                                  have a97 : (97 : Int) ≤ r := by omega
                                  have a65 : (65 : Int) ≤ r := by omega
                                  have a48 : (48 : Int) ≤ r := by omega
                                  have b122 : ¬ r ≤ (122 : Int) := by omega
                                  have b90 : ¬ r ≤ (90 : Int) := by omega
                                  have b57 : ¬ r ≤ (57 : Int) := by omega
                                  have n45 : (r != 45) = true := by rw [bne_iff_ne]; omega
                                  have n95 : (r != 95) = true := by rw [bne_iff_ne]; omega
                                  have n46 : (r != 46) = true := by rw [bne_iff_ne]; omega
                                  have l160 : ¬ r < (160 : Int) := by omega
                                  have hok : okI r = true := by
                                    simp only [okI, Bool.or_eq_true, Bool.and_eq_true, decide_eq_true_eq]
                                    omega
                                  have HOK := Lib.hid hok
                                  clear hok
                                  go_wp2_with fail
                                  go_round
                                  case rel =>
                                    refine ⟨k + 1, by omega, by go_num, fun i hi hik => ?_⟩
                                    by_cases e : i = k
                                    · subst e
                                      rw [HR.out]
                                      exact HOK.out
                                    · exact HNO.out i hi (by omega)
                                  case measure => simp [intOf]; omega
        · have i2 : ¬ (k : Int) < (l.length : Int) := by omega
          obtain rfl : true = b := by
            rw [← HB.out, decide_eq_true (show l.length ≤ 32 by omega), decide_eq_true (show 0 < l.length by omega), Bool.true_and, Bool.true_and]
            symm
            rw [List.all_eq_true]
            intro x hx
            obtain ⟨i, hi, rfl⟩ := List.getElem_of_mem hx
            exact HNO.out i hi (by omega)
          go_wp2_with fail
          go_ret
          exact ⟨rfl, hb1⟩
end Go.Proofs.YtflojipkgaocnaaGreatDoor
namespace Go.Proofs.YtflojipkgaocnaaGreatDoor
open Go.RowKit

theorem rT_any (s : ByteArray) (hs : s.size ≤ 4611686018427387904) (w : World) : Calls Tryz.prog 34 #[.string s] w fun e w' => e = .returned (.string (pT s)) ∧ Below w.heap.size w w' := refPutText_any s w hs
theorem rN_any (n : Int) (w : World) : Calls Tryz.prog 30 #[.int .i64 n] w fun e w' => e = .returned (.string (pN n)) ∧ Below w.heap.size w w' := refPut_any n w
theorem rI_any (n : Int) (w : World) : Calls Tryz.prog 54 #[.int .i64 n] w fun e w' => e = .returned (.string (pI n)) ∧ Below w.heap.size w w' := refPutInt_any n w

/-- What may be asked whether it is right. -/
structure BigE (e : EV) : Prop where
  k : e.kind.size ≤ 100000
structure BigB (b : BW) : Prop where
  s : b.stream.size ≤ 100000
  e : ∀ i (h : i < b.events.length), i < 8 → BigE b.events[i]
theorem LightE.big {e : EV} (h : LightE e) : BigE e := ⟨by have := h.k; omega⟩
theorem LightB.big {b : BW} (h : LightB b) : BigB b := ⟨by have := h.s; omega, fun i hi _ => (h.e _ (List.getElem_mem hi)).big⟩
set_option maxHeartbeats 1600000 in
theorem refRight_any (e : EV) (he : BigE e) (b : Bool) (hb : rightE e = b) (w : World) :
    Calls Tryz.prog 18 #[.agg #[.string e.kind, .string e.data]] w fun r w' => r = .returned (.bool b) ∧ Below w.heap.size w w' := by
  have hb0 := bx_new (w := w) (.cells #[.string e.kind, .string e.data] 55)
  obtain ⟨nb, hn⟩ : ∃ x, nameB e.kind = x := ⟨_, rfl⟩
  have C := Lib.hid (refName_any e.kind (by have := he.k; omega) nb hn)
  cases nb with
  | false =>
    obtain rfl : false = b := by rw [← hb, rightE, hn, Bool.and_false]
    clear hb hn
    go_enter Tryz.func18, Tryz.ntmps18
    go_wp2_with fail
    refine (C.out _).mono ?_
    rintro r w1 ⟨rfl, hb1⟩
    go_wp2_with fail
    go_ret
    exact ⟨rfl, bx_below (bx_more hb0 hb1)⟩
  | true =>
    have HB := Lib.hid hb
    have HN := Lib.hid hn
    clear hb hn
    go_enter Tryz.func18, Tryz.ntmps18
    go_wp2_with fail
    refine (C.out _).mono ?_
    rintro r w1 ⟨rfl, hb1⟩
    have bx1 := bx_more hb0 hb1
    obtain ⟨y0, y1⟩ := box2 bx1
    go_wp2_with fail
    go_ret
    refine ⟨ret_bool ?_, bx_below bx1⟩
    rw [← HB.out, rightE, HN.out, Bool.and_true, decide_eq_decide]
    omega

set_option maxRecDepth 100000 in
set_option maxHeartbeats 3200000 in
theorem refFits_any (B : Nat) (v : Value) (b : BW) (c : Nat) (hc : fitsB b = c) (hLB : BigB b) (w : World) (h : IsBatch B w v b) (hB : B ≤ w.heap.size) :
    Calls Tryz.prog 20 #[v] w fun r w' => r = .returned (.int .i64 c) ∧ Below w.heap.size w w' := by
  obtain ⟨lv, rfl, hl⟩ := h
  have HL := Lib.hid hl
  obtain ⟨a, cap, rfl⟩ := hl.form
  have hmax : b.events.length ≤ 9223372036854775807 := by obtain ⟨_, _, _, h3, h4, _⟩ := hl; unfold maxLen at h4; omega
  obtain ⟨nb, hn⟩ : ∃ x, nameB b.stream = x := ⟨_, rfl⟩
  have C1 := Lib.hid (refName_any b.stream (by have := hLB.s; omega) nb hn)
  have HC := Lib.hid hc
  have HN := Lib.hid hn
  have LL := Lib.hid hLB
  have HBB := Lib.hid hB
  have bx0 := bx_new (w := w) (.cells #[.string b.stream, .int .i64 b.expect, .int .i64 b.session, .int .i64 b.seq, .slice a b.events.length cap] 28)
  clear hl hn hc hLB hB
  cases nb with
  | false =>
    obtain rfl : 1 = c := by rw [← HC.out, fitsB, if_pos (show wrongB b from (.inl HN.out))]
    go_enter Tryz.func20, Tryz.ntmps20
    go_wp2_with fail
    refine (C1.out _).mono ?_
    rintro r w1 ⟨rfl, hb1⟩
    have bx1 := bx_more bx0 hb1
    obtain ⟨y0, y1, y2, y3, y4⟩ := box5 bx1
    go_wp2_with fail
    go_ret
    exact ⟨rfl, bx_below bx1⟩
  | true =>
    by_cases e0 : b.expect < (-1 : Int)
    · obtain rfl : 1 = c := by rw [← HC.out, fitsB, if_pos (show wrongB b from (.inr (.inl e0)))]
      go_enter Tryz.func20, Tryz.ntmps20
      go_wp2_with fail
      refine (C1.out _).mono ?_
      rintro r w1 ⟨rfl, hb1⟩
      have bx1 := bx_more bx0 hb1
      obtain ⟨y0, y1, y2, y3, y4⟩ := box5 bx1
      go_wp2_with fail
      go_ret
      exact ⟨rfl, bx_below bx1⟩
    · by_cases e1 : (274877906944 : Int) < b.expect
      · obtain rfl : 1 = c := by rw [← HC.out, fitsB, if_pos (show wrongB b from (.inr (.inr (.inl e1))))]
        go_enter Tryz.func20, Tryz.ntmps20
        go_wp2_with fail
        refine (C1.out _).mono ?_
        rintro r w1 ⟨rfl, hb1⟩
        have bx1 := bx_more bx0 hb1
        obtain ⟨y0, y1, y2, y3, y4⟩ := box5 bx1
        go_wp2_with fail
        go_ret
        exact ⟨rfl, bx_below bx1⟩
      · by_cases e2 : b.session < (1 : Int)
        · obtain rfl : 1 = c := by rw [← HC.out, fitsB, if_pos (show wrongB b from (.inr (.inr (.inr (.inl (by rw [numB, decide_eq_false (show ¬ 1 ≤ b.session by omega), Bool.false_and]))))))]
          go_enter Tryz.func20, Tryz.ntmps20
          go_wp2_with fail
          refine (C1.out _).mono ?_
          rintro r w1 ⟨rfl, hb1⟩
          have bx1 := bx_more bx0 hb1
          obtain ⟨y0, y1, y2, y3, y4⟩ := box5 bx1
          go_wp2_with fail
          go_ret
          exact ⟨rfl, bx_below bx1⟩
        · by_cases e3 : (274877906944 : Int) < b.session
          · obtain rfl : 1 = c := by rw [← HC.out, fitsB, if_pos (show wrongB b from (.inr (.inr (.inr (.inl (by rw [numB, decide_eq_false (show ¬ b.session ≤ 274877906944 by omega), Bool.and_false]))))))]
            go_enter Tryz.func20, Tryz.ntmps20
            go_wp2_with fail
            refine (C1.out _).mono ?_
            rintro r w1 ⟨rfl, hb1⟩
            have bx1 := bx_more bx0 hb1
            obtain ⟨y0, y1, y2, y3, y4⟩ := box5 bx1
            go_wp2_with fail
            go_ret
            exact ⟨rfl, bx_below bx1⟩
          · by_cases e4 : b.seq < (1 : Int)
            · obtain rfl : 1 = c := by rw [← HC.out, fitsB, if_pos (show wrongB b from (.inr (.inr (.inr (.inr (.inl (by rw [numB, decide_eq_false (show ¬ 1 ≤ b.seq by omega), Bool.false_and])))))))]
              go_enter Tryz.func20, Tryz.ntmps20
              go_wp2_with fail
              refine (C1.out _).mono ?_
              rintro r w1 ⟨rfl, hb1⟩
              have bx1 := bx_more bx0 hb1
              obtain ⟨y0, y1, y2, y3, y4⟩ := box5 bx1
              go_wp2_with fail
              go_ret
              exact ⟨rfl, bx_below bx1⟩
            · by_cases e5 : (274877906944 : Int) < b.seq
              · obtain rfl : 1 = c := by rw [← HC.out, fitsB, if_pos (show wrongB b from (.inr (.inr (.inr (.inr (.inl (by rw [numB, decide_eq_false (show ¬ b.seq ≤ 274877906944 by omega), Bool.and_false])))))))]
                go_enter Tryz.func20, Tryz.ntmps20
                go_wp2_with fail
                refine (C1.out _).mono ?_
                rintro r w1 ⟨rfl, hb1⟩
                have bx1 := bx_more bx0 hb1
                obtain ⟨y0, y1, y2, y3, y4⟩ := box5 bx1
                go_wp2_with fail
                go_ret
                exact ⟨rfl, bx_below bx1⟩
              · by_cases e6 : b.events.length = 0
                · have g6 : ((b.events.length : Int) == 0) = true := by rw [e6]; rfl
                  obtain rfl : 1 = c := by rw [← HC.out, fitsB, if_pos (show wrongB b from (.inr (.inr (.inr (.inr (.inr e6))))))]
                  clear e6
                  go_enter Tryz.func20, Tryz.ntmps20
                  go_wp2_with fail
                  refine (C1.out _).mono ?_
                  rintro r w1 ⟨rfl, hb1⟩
                  have bx1 := bx_more bx0 hb1
                  obtain ⟨y0, y1, y2, y3, y4⟩ := box5 bx1
                  go_wp2_with fail
                  go_ret
                  exact ⟨rfl, bx_below bx1⟩
                · have g6 : ((b.events.length : Int) == 0) = false := by rw [beq_eq_false_iff_ne]; omega
                  have NW := Lib.hid (show ¬ wrongB b by
                    rintro (h | h | h | h | h | h)
                    · rw [HN.out] at h; cases h
                    · omega
                    · omega
                    · rw [numB, decide_eq_true (show 1 ≤ b.session by omega), decide_eq_true (show b.session ≤ 274877906944 by omega)] at h; cases h
                    · rw [numB, decide_eq_true (show 1 ≤ b.seq by omega), decide_eq_true (show b.seq ≤ 274877906944 by omega)] at h; cases h
                    · omega)
                  by_cases e8 : 8 < b.events.length
                  · have g8 : (8 : Int) < (b.events.length : Int) := by omega
                    obtain rfl : 4 = c := by rw [← HC.out, fitsB, if_neg NW.out, if_pos e8]
                    go_enter Tryz.func20, Tryz.ntmps20
                    go_wp2_with fail
                    refine (C1.out _).mono ?_
                    rintro r w1 ⟨rfl, hb1⟩
                    have bx1 := bx_more bx0 hb1
                    obtain ⟨y0, y1, y2, y3, y4⟩ := box5 bx1
                    go_wp2_with fail
                    go_ret
                    exact ⟨rfl, bx_below bx1⟩
                  · have g8 : ¬ (8 : Int) < (b.events.length : Int) := by omega
                    go_enter Tryz.func20, Tryz.ntmps20
                    go_wp2_with fail
                    refine (C1.out _).mono ?_
                    rintro r w1 ⟨rfl, hb1⟩
                    have bx1 := bx_more bx0 hb1
                    obtain ⟨y0, y1, y2, y3, y4⟩ := box5 bx1
                    go_wp2_with fail
                    go_loopw [4, 5] (fun t4 _ wr => ∃ k : Nat, k ≤ b.events.length ∧ t4 = .int .i64 k ∧ (∀ i (hi : i < b.events.length), i < k → rightE b.events[i] = true) ∧ Below (w.heap.size + 1) (w.alloc (.cells #[.string b.stream, .int .i64 b.expect, .int .i64 b.session, .int .i64 b.seq, .slice a b.events.length cap] 28)) wr) (fun t4 _ _ => b.events.length - (intOf t4).toNat)
                    case atStart => exact ⟨0, Nat.zero_le _, rfl, fun i _ h => absurd h (by omega), bx1⟩
                    case round =>
                      obtain ⟨k, hk, rfl, hno, bx⟩ := hrel
                      have HNO := Lib.hid hno
                      clear hno y0 y1 y2 y3 y4
                      obtain ⟨y0, y1, y2, y3, y4⟩ := box5 bx
                      by_cases hlt : k < b.events.length
                      · obtain ⟨bb, off, cap', he, hblk, _, hc1, hc2⟩ := (HL.out.keep (bx_below bx) HBB.out).get k hlt
                        obtain ⟨rfl, -, rfl⟩ : a = some ⟨bb, off, none⟩ ∧ b.events.length = b.events.length ∧ cap = cap' := by injection he with e1 e2 e3; exact ⟨e1, e2, e3⟩
                        clear he
                        have hly : BigE b.events[k] := LL.out.e k hlt (by omega)
                        obtain ⟨y, hy⟩ : ∃ y, b.events[k] = y := ⟨_, rfl⟩
                        rw [hy] at hc1 hc2 hly
                        obtain ⟨q, hq⟩ : ∃ q, rightE y = q := ⟨_, rfl⟩
                        have CR := Lib.hid (refRight_any y hly q hq)
                        have HY := Lib.hid hy
                        have HQ := Lib.hid hq
                        have i1 : (0 : Int) ≤ (k : Int) := by omega
                        have i2 : (k : Int) < (b.events.length : Int) := by omega
                        clear hy hq hly
                        cases q with
                        | false =>
                          obtain rfl : 1 = c := by
                            rw [← HC.out, fitsB, if_neg NW.out, if_neg e8, if_pos]
                            rw [List.any_eq_true]
                            exact ⟨_, List.getElem_mem hlt, by rw [HY.out, HQ.out]; rfl⟩
                          go_wp2_with fail
                          refine (CR.out _).mono ?_
                          rintro r w2 ⟨rfl, hb2⟩
                          go_wp2_with fail
                          go_ret
                          exact ⟨rfl, bx_below (bx_more bx hb2)⟩
                        | true =>
                          go_wp2_with fail
                          refine (CR.out _).mono ?_
                          rintro r w2 ⟨rfl, hb2⟩
                          go_wp2_with fail
                          go_roundw
                          case rel =>
                            refine ⟨k + 1, by omega, by go_num, fun i hi hik => ?_, bx_more bx hb2⟩
                            by_cases e : i = k
                            · subst e
                              rw [HY.out]
                              exact HQ.out
                            · exact HNO.out i hi (by omega)
                          case measure => simp [intOf]; omega
                      · have i2 : ¬ (k : Int) < (b.events.length : Int) := by omega
                        obtain rfl : 0 = c := by
                          rw [← HC.out, fitsB, if_neg NW.out, if_neg e8, if_neg]
                          rw [Bool.not_eq_true, List.any_eq_false]
                          intro x hx
                          obtain ⟨i, hi, rfl⟩ := List.getElem_of_mem hx
                          rw [HNO.out i hi (by omega)]
                          decide
                        go_wp2_with fail
                        go_ret
                        exact ⟨rfl, bx_below bx⟩

set_option maxRecDepth 100000 in
set_option maxHeartbeats 1600000 in
theorem refBytes_any (e : EV) (he : LightE e) (w : World) :
    Calls Tryz.prog 53 #[.agg #[.string e.kind, .string e.data]] w fun r w' => r = .returned (.string (bytesE e)) ∧ Below w.heap.size w w' := by
  have z1 := pT_size e.kind
  have z2 := pT_size e.data
  have z3 := he.k
  have z4 := he.d
  have d1 := Lib.hid (rT_any e.kind (by omega))
  have d2 := Lib.hid (rT_any e.data (by omega))
  rw [show bytesE e = pT e.kind ++ pT e.data from rfl]
  generalize pT e.kind = P1 at z1 d1 ⊢
  generalize pT e.data = P2 at z2 d2 ⊢
  have a1 : ∀ W : World, (Op.stringOp .add (P1) (P2)).run Tryz.prog W = .ok (.string (P1 ++ P2)) W := fun W => run_string_add_sum (P := Tryz.prog) (w := W) _ _ (by first | omega | (simp only [ByteArray.size_append]; omega))
  have mkS : ∀ X : World, Below (w.heap.size + 1) (w.alloc (.cells #[.string e.kind, .string e.data] 55)) X → X.cell? ⟨w.heap.size, 0, none⟩ = some (.string e.kind) ∧ X.cell? ⟨w.heap.size, 1, none⟩ = some (.string e.data) ∧ Below (w.heap.size + 1) (w.alloc (.cells #[.string e.kind, .string e.data] 55)) X := fun X hk => ⟨(box2 hk).1, (box2 hk).2, hk⟩
  have keep : ∀ X X' : World, (X.cell? ⟨w.heap.size, 0, none⟩ = some (.string e.kind) ∧ X.cell? ⟨w.heap.size, 1, none⟩ = some (.string e.data) ∧ Below (w.heap.size + 1) (w.alloc (.cells #[.string e.kind, .string e.data] 55)) X) → Below X.heap.size X X' → X'.cell? ⟨w.heap.size, 0, none⟩ = some (.string e.kind) ∧ X'.cell? ⟨w.heap.size, 1, none⟩ = some (.string e.data) ∧ Below (w.heap.size + 1) (w.alloc (.cells #[.string e.kind, .string e.data] 55)) X' := fun X X' h k => mkS X' (bx_more h.2.2 k)
  have hh := mkS (w.alloc (.cells #[.string e.kind, .string e.data] 55)).drew (bx_new _).drew
  have MK := Lib.hid mkS
  have KEEP := Lib.hid keep
  clear mkS keep he
  go_enter Tryz.func53, Tryz.ntmps53
  go_wp2_with fail
  go_region_held3 (fun X => X.cell? ⟨w.heap.size, 0, none⟩ = some (.string e.kind) ∧ X.cell? ⟨w.heap.size, 1, none⟩ = some (.string e.data) ∧ Below (w.heap.size + 1) (w.alloc (.cells #[.string e.kind, .string e.data] 55)) X) (first | exact hh | exact KEEP.out _ _ (by assumption) (by assumption))
    (first
      | ((with_reducible refine (d1.out _).mono ?_); rintro r w2 ⟨rfl, hb2⟩)
      | ((with_reducible refine (d2.out _).mono ?_); rintro r w3 ⟨rfl, hb3⟩))
  have hS3 := KEEP.out _ _ (KEEP.out _ _ hh hb2) hb3
  clear a1 hh
  go_wp2_with fail
  go_ret
  exact ⟨rfl, bx_below hS3.2.2⟩

set_option maxRecDepth 100000 in
set_option maxHeartbeats 1600000 in
theorem refPutE_any (e : EV) (he : LightE e) (s : ByteArray) (hs : putE e = s) (w : World) :
    Calls Tryz.prog 32 #[.agg #[.string e.kind, .string e.data]] w fun r w' => r = .returned (.string s) ∧ Below w.heap.size w w' := by
  have hb0 := bx_new (w := w) (.cells #[.string e.kind, .string e.data] 55)
  obtain ⟨q, hq⟩ : ∃ x, rightE e = x := ⟨_, rfl⟩
  have C := Lib.hid (refRight_any e he.big q hq (w.alloc (.cells #[.string e.kind, .string e.data] 55)))
  have C2 := Lib.hid (refBytes_any e he)
  rw [putE, hq] at hs
  clear hq he
  cases q with
  | false =>
    obtain rfl : ⟨#[]⟩ = s := by rw [← hs, if_neg (by decide)]
    clear hs
    go_enter Tryz.func32, Tryz.ntmps32
    go_wp2_with fail
    refine C.out.mono ?_
    rintro r w1 ⟨rfl, hb1⟩
    go_wp2_with fail
    go_ret
    exact ⟨rfl, bx_below (bx_more hb0 hb1)⟩
  | true =>
    obtain rfl : bytesE e = s := by rw [← hs, if_pos rfl]
    clear hs
    go_enter Tryz.func32, Tryz.ntmps32
    go_wp2_with fail
    refine C.out.mono ?_
    rintro r w1 ⟨rfl, hb1⟩
    have bx1 := bx_more hb0 hb1
    obtain ⟨y0, y1⟩ := box2 bx1
    go_wp2_with fail
    refine (C2.out _).mono ?_
    rintro r w2 ⟨rfl, hb2⟩
    go_wp2_with fail
    go_ret
    exact ⟨rfl, bx_below (bx_more bx1 hb2)⟩

set_option maxRecDepth 100000 in
set_option maxHeartbeats 3200000 in
theorem refPutB_any (B : Nat) (v : Value) (b : BW) (s : ByteArray) (hs : putB b = s) (w : World) (h : IsBatch B w v b) (hB : B ≤ w.heap.size) (hL : LightB b) :
    Calls Tryz.prog 33 #[v] w fun r w' => r = .returned (.string s) ∧ Below w.heap.size w w' := by
  have HV := Lib.hid h
  obtain ⟨lv, rfl, hl⟩ := h
  have HL := Lib.hid hl
  obtain ⟨a, cap, rfl⟩ := hl.form
  have hb0 := bx_new (w := w) (.cells #[.string b.stream, .int .i64 b.expect, .int .i64 b.session, .int .i64 b.seq, .slice a b.events.length cap] 28)
  obtain ⟨q, hq⟩ : ∃ x, fitsB b = x := ⟨_, rfl⟩
  have C := Lib.hid (refFits_any B _ b q hq hL.big _ (HV.out.keep (bx_below hb0) hB) (by rw [World.size_alloc]; omega))
  rw [putB, hq] at hs
  clear hq hl HV
  by_cases h0 : q = 0
  · subst h0
    rw [if_pos rfl] at hs
    have HS := Lib.hid hs
    have z1 := pT_size b.stream
    have z2 := pI_size b.expect
    have z3 := pN_size b.session
    have z4 := pN_size b.seq
    have z5 := pN_size b.events.length
    have z6 := hL.s
    have z7 := hL.n
    have d1 := Lib.hid (rT_any b.stream (by omega))
    have d2 := Lib.hid (rI_any b.expect)
    have d3 := Lib.hid (rN_any b.session)
    have d4 := Lib.hid (rN_any b.seq)
    have d5 := Lib.hid (rN_any b.events.length)
    have hh0 : headB b = pT b.stream ++ pI b.expect ++ pN b.session ++ pN b.seq ++ pN b.events.length := rfl
    have zh := headB_size hL
    generalize pT b.stream = P1 at z1 d1 hh0
    generalize pI b.expect = P2 at z2 d2 hh0
    generalize pN b.session = P3 at z3 d3 hh0
    generalize pN b.seq = P4 at z4 d4 hh0
    generalize pN b.events.length = P5 at z5 d5 hh0
    have a1 : ∀ W : World, (Op.stringOp .add (P1) (P2)).run Tryz.prog W = .ok (.string (P1 ++ P2)) W := fun W => run_string_add_sum (P := Tryz.prog) (w := W) _ _ (by first | omega | (simp only [ByteArray.size_append]; omega))
    have a2 : ∀ W : World, (Op.stringOp .add (P1 ++ P2) (P3)).run Tryz.prog W = .ok (.string (P1 ++ P2 ++ P3)) W := fun W => run_string_add_sum (P := Tryz.prog) (w := W) _ _ (by first | omega | (simp only [ByteArray.size_append]; omega))
    have a3 : ∀ W : World, (Op.stringOp .add (P1 ++ P2 ++ P3) (P4)).run Tryz.prog W = .ok (.string (P1 ++ P2 ++ P3 ++ P4)) W := fun W => run_string_add_sum (P := Tryz.prog) (w := W) _ _ (by first | omega | (simp only [ByteArray.size_append]; omega))
    have a4 : ∀ W : World, (Op.stringOp .add (P1 ++ P2 ++ P3 ++ P4) (P5)).run Tryz.prog W = .ok (.string (P1 ++ P2 ++ P3 ++ P4 ++ P5)) W := fun W => run_string_add_sum (P := Tryz.prog) (w := W) _ _ (by first | omega | (simp only [ByteArray.size_append]; omega))
    rw [hh0] at zh HS
    generalize hG : P1 ++ P2 ++ P3 ++ P4 ++ P5 = G at a4 zh HS
    have LL := Lib.hid hL
    have hgl : G.data.toList.length = G.size := by simp
    clear hs hh0 hG hL
    go_enter Tryz.func33, Tryz.ntmps33
    go_wp2_with fail
    refine C.out.mono ?_
    rintro r w1 ⟨rfl, hb1⟩
    have bx1 := bx_more hb0 hb1
    obtain ⟨y0, y1, y2, y3, y4⟩ := box5 bx1
    have mkS : ∀ X : World, Below (w.heap.size + 1) (w.alloc (.cells #[.string b.stream, .int .i64 b.expect, .int .i64 b.session, .int .i64 b.seq, .slice a b.events.length cap] 28)) X → X.cell? ⟨w.heap.size, 0, none⟩ = some (.string b.stream) ∧ X.cell? ⟨w.heap.size, 1, none⟩ = some (.int .i64 b.expect) ∧ X.cell? ⟨w.heap.size, 2, none⟩ = some (.int .i64 b.session) ∧ X.cell? ⟨w.heap.size, 3, none⟩ = some (.int .i64 b.seq) ∧ X.cell? ⟨w.heap.size, 4, none⟩ = some (.slice a b.events.length cap) ∧ w.heap.size + 1 ≤ X.heap.size ∧ Below (w.heap.size + 1) (w.alloc (.cells #[.string b.stream, .int .i64 b.expect, .int .i64 b.session, .int .i64 b.seq, .slice a b.events.length cap] 28)) X := fun X hk => ⟨(box5 hk).1, (box5 hk).2.1, (box5 hk).2.2.1, (box5 hk).2.2.2.1, (box5 hk).2.2.2.2, by have := hk.size; simpa using this, hk⟩
    have keep : ∀ X X' : World, (X.cell? ⟨w.heap.size, 0, none⟩ = some (.string b.stream) ∧ X.cell? ⟨w.heap.size, 1, none⟩ = some (.int .i64 b.expect) ∧ X.cell? ⟨w.heap.size, 2, none⟩ = some (.int .i64 b.session) ∧ X.cell? ⟨w.heap.size, 3, none⟩ = some (.int .i64 b.seq) ∧ X.cell? ⟨w.heap.size, 4, none⟩ = some (.slice a b.events.length cap) ∧ w.heap.size + 1 ≤ X.heap.size ∧ Below (w.heap.size + 1) (w.alloc (.cells #[.string b.stream, .int .i64 b.expect, .int .i64 b.session, .int .i64 b.seq, .slice a b.events.length cap] 28)) X) → Below X.heap.size X X' → X'.cell? ⟨w.heap.size, 0, none⟩ = some (.string b.stream) ∧ X'.cell? ⟨w.heap.size, 1, none⟩ = some (.int .i64 b.expect) ∧ X'.cell? ⟨w.heap.size, 2, none⟩ = some (.int .i64 b.session) ∧ X'.cell? ⟨w.heap.size, 3, none⟩ = some (.int .i64 b.seq) ∧ X'.cell? ⟨w.heap.size, 4, none⟩ = some (.slice a b.events.length cap) ∧ w.heap.size + 1 ≤ X'.heap.size ∧ Below (w.heap.size + 1) (w.alloc (.cells #[.string b.stream, .int .i64 b.expect, .int .i64 b.session, .int .i64 b.seq, .slice a b.events.length cap] 28)) X' := fun X X' h k => mkS X' (bx_more h.2.2.2.2.2.2 k)
    have hh := mkS _ bx1.drew
    have MK := Lib.hid mkS
    have KEEP := Lib.hid keep
    clear mkS keep
    go_wp2_with fail
    go_region_held3 (fun X => X.cell? ⟨w.heap.size, 0, none⟩ = some (.string b.stream) ∧ X.cell? ⟨w.heap.size, 1, none⟩ = some (.int .i64 b.expect) ∧ X.cell? ⟨w.heap.size, 2, none⟩ = some (.int .i64 b.session) ∧ X.cell? ⟨w.heap.size, 3, none⟩ = some (.int .i64 b.seq) ∧ X.cell? ⟨w.heap.size, 4, none⟩ = some (.slice a b.events.length cap) ∧ w.heap.size + 1 ≤ X.heap.size ∧ Below (w.heap.size + 1) (w.alloc (.cells #[.string b.stream, .int .i64 b.expect, .int .i64 b.session, .int .i64 b.seq, .slice a b.events.length cap] 28)) X) (first | exact hh | exact KEEP.out _ _ (by assumption) (by assumption))
      (first
        | ((with_reducible refine (d1.out _).mono ?_); rintro r w2 ⟨rfl, hb2⟩)
        | ((with_reducible refine (d2.out _).mono ?_); rintro r w3 ⟨rfl, hb3⟩)
        | ((with_reducible refine (d3.out _).mono ?_); rintro r w4 ⟨rfl, hb4⟩)
        | ((with_reducible refine (d4.out _).mono ?_); rintro r w5 ⟨rfl, hb5⟩)
        | ((with_reducible refine (d5.out _).mono ?_); rintro r w6 ⟨rfl, hb6⟩))
    have hK7 := KEEP.out _ _ (KEEP.out _ _ (KEEP.out _ _ (KEEP.out _ _ (KEEP.out _ _ hh hb2) hb3) hb4) hb5) hb6
    obtain ⟨y0, y1, y2, y3, y4, hz7, bx7⟩ := hK7
    clear a1 a2 a3 a4 hh
    have hG0 : G = bstr (G.data.toList ++ bodyL (b.events.take 0)) := by simp [bodyL, bstr]
    have HG0 := Lib.hid hG0
    clear hG0
    go_wp2_with fail
    go_loopw [3, 4] (fun t3 t4 wr => ∃ k : Nat, k ≤ b.events.length ∧ t4 = .int .i64 k ∧ t3 = .string (bstr (G.data.toList ++ bodyL (b.events.take k))) ∧ Below (w.heap.size + 1) (w.alloc (.cells #[.string b.stream, .int .i64 b.expect, .int .i64 b.session, .int .i64 b.seq, .slice a b.events.length cap] 28)) wr) (fun _ t4 _ => b.events.length - (intOf t4).toNat)
    case atStart => exact ⟨0, Nat.zero_le _, rfl, by rw [← HG0.out], bx7⟩
    case round =>
      obtain ⟨k, hk, rfl, rfl, bxk⟩ := hrel
      obtain ⟨y0, y1, y2, y3, y4, _, _⟩ := MK.out wr bxk
      have zb := bodyL_size (l := b.events.take k) (fun x hx => LL.out.e x (List.mem_of_mem_take hx))
      rw [List.length_take] at zb
      by_cases hlt : k < b.events.length
      · obtain ⟨bb, off, cap', he, hblk, _, hc1, hc2⟩ := (HL.out.keep (bx_below bxk) hB).get k hlt
        obtain ⟨rfl, -, rfl⟩ : a = some ⟨bb, off, none⟩ ∧ b.events.length = b.events.length ∧ cap = cap' := by injection he with e1 e2 e3; exact ⟨e1, e2, e3⟩
        clear he
        have hly : LightE b.events[k] := LL.out.e _ (List.getElem_mem hlt)
        have zy := bytesE_size hly
        have HTK := Lib.hid (bodyL_take hlt)
        obtain ⟨y, hy⟩ : ∃ y, b.events[k] = y := ⟨_, rfl⟩
        rw [hy] at hc1 hc2 hly zy HTK
        have D := Lib.hid (refBytes_any y hly)
        obtain ⟨Y, hY⟩ : ∃ Y, bytesE y = Y := ⟨_, rfl⟩
        rw [hY] at D zy HTK
        obtain ⟨T, hT⟩ : ∃ T, G.data.toList ++ bodyL (b.events.take k) = T := ⟨_, rfl⟩
        have zT : T.length ≤ 100000 := by rw [← hT, List.length_append]; omega
        rw [hT]
        have ha : ∀ W : World, (Op.stringOp .add (bstr T) Y).run Tryz.prog W = .ok (.string (bstr (T ++ Y.data.toList))) W := fun W => by
          rw [show bstr (T ++ Y.data.toList) = bstr T ++ Y from ByteArray.ext (Array.toList_inj.1 (by simp [bstr]))]
          exact run_string_add_sum (P := Tryz.prog) (w := W) _ _ (by rw [bstr_size]; omega)
        have HTT := Lib.hid hT
        have i1 : (0 : Int) ≤ (k : Int) := by omega
        have i2 : (k : Int) < (b.events.length : Int) := by omega
        clear hy hY hly hT
        go_wp2_with fail
        refine (D.out _).mono ?_
        rintro r w8 ⟨rfl, hb8⟩
        go_wp2_with fail
        go_roundw
        case rel => exact ⟨k + 1, by omega, by go_num, by rw [HTK.out, ← List.append_assoc, HTT.out], bx_more bxk hb8⟩
        case measure => simp [intOf]; omega
      · have g : ¬ ((k : Int) < (b.events.length : Int)) := by omega
        have hkl : b.events.take k = b.events := List.take_of_length_le (by omega)
        rw [hkl]
        clear hkl
        go_wp2_with fail
        go_ret
        exact ⟨ret_str HS.out, bx_below bxk⟩
  · rw [if_neg h0] at hs
    subst hs
    have g0 : ((q : Int) != 0) = true := by simp; omega
    clear hL
    go_enter Tryz.func33, Tryz.ntmps33
    go_wp2_with fail
    refine C.out.mono ?_
    rintro r w1 ⟨rfl, hb1⟩
    go_wp2_with fail
    go_ret
    exact ⟨rfl, bx_below (bx_more hb0 hb1)⟩
end Go.Proofs.YtflojipkgaocnaaGreatDoor
namespace Go.Proofs.YtflojipkgaocnaaGreatDoor
open Go.RowKit
set_option linter.unusedSimpArgs false
set_option linter.unusedVariables false

set_option maxRecDepth 100000 in
set_option maxHeartbeats 3200000 in
theorem refRightR_any (B : Nat) (v : Value) (e : EN) (c : Bool) (hc : rightR e = c) (w : World) (h : IsEntry B w v e) (hB : B ≤ w.heap.size) (hbb : BigB e.b) :
    Calls Tryz.prog 17 #[v] w fun r w' => r = .returned (.bool c) ∧ Below w.heap.size w w' := by
  obtain ⟨lv, rfl, hl⟩ := h
  have HL := Lib.hid hl
  obtain ⟨ea, ec, rfl⟩ := hl.form
  have hb0 : Below w.heap.size w (w.alloc (.cells #[.int .i64 e.pos, .int .i64 e.epoch, .string e.b.stream, .int .i64 e.b.expect, .int .i64 e.b.session, .int .i64 e.b.seq, .slice ea e.b.events.length ec] 53)) := (Below.refl _ _).alloc (Nat.le_refl _) _
  obtain ⟨f, hf⟩ : ∃ f, fitsB e.b = f := ⟨_, rfl⟩
  have CF := Lib.hid (refFits_any B _ e.b f hf hbb _ ⟨_, rfl, HL.out.keep hb0 hB⟩ (Nat.le_trans hB hb0.size))
  have hi := rightR_iff e
  rw [hf] at hi
  have HI := Lib.hid hi
  clear hl hf hi
  by_cases h1 : 1 ≤ e.pos
  · by_cases h2 : e.pos ≤ 274877906944
    · by_cases h3 : 1 ≤ e.epoch
      · by_cases h4 : e.epoch ≤ 274877906944
        · by_cases h5 : f = 0
          · obtain rfl : true = c := by rw [← hc]; exact (HI.out.2 ⟨⟨h1, h2⟩, ⟨h3, h4⟩, h5⟩).symm
            subst h5
            clear hc
            go_enter Tryz.func17, Tryz.ntmps17
            go_wp2_with fail
            refine CF.out.mono ?_
            rintro r w1 ⟨rfl, hb1⟩
            go_wp2_with fail
            go_ret
            exact ⟨rfl, bstep hb0 hb1⟩
          · obtain rfl : false = c := by rw [← hc]; exact (Bool.eq_false_iff.2 fun h => h5 (HI.out.1 h).2.2).symm
            have g5 : ((f : Int) == 0) = false := by rw [beq_eq_false_iff_ne]; omega
            clear hc h5
            go_enter Tryz.func17, Tryz.ntmps17
            go_wp2_with fail
            refine CF.out.mono ?_
            rintro r w1 ⟨rfl, hb1⟩
            go_wp2_with fail
            go_ret
            exact ⟨rfl, bstep hb0 hb1⟩
        · obtain rfl : false = c := by rw [← hc]; exact (Bool.eq_false_iff.2 fun h => h4 (HI.out.1 h).2.1.2).symm
          clear hc
          go_enter Tryz.func17, Tryz.ntmps17
          go_wp2_with fail
          go_ret
          exact ⟨rfl, hb0⟩
      · obtain rfl : false = c := by rw [← hc]; exact (Bool.eq_false_iff.2 fun h => h3 (HI.out.1 h).2.1.1).symm
        clear hc
        go_enter Tryz.func17, Tryz.ntmps17
        go_wp2_with fail
        go_ret
        exact ⟨rfl, hb0⟩
    · obtain rfl : false = c := by rw [← hc]; exact (Bool.eq_false_iff.2 fun h => h2 (HI.out.1 h).1.2).symm
      clear hc
      go_enter Tryz.func17, Tryz.ntmps17
      go_wp2_with fail
      go_ret
      exact ⟨rfl, hb0⟩
  · obtain rfl : false = c := by rw [← hc]; exact (Bool.eq_false_iff.2 fun h => h1 (HI.out.1 h).1.1).symm
    clear hc
    go_enter Tryz.func17, Tryz.ntmps17
    go_wp2_with fail
    go_ret
    exact ⟨rfl, hb0⟩

set_option maxRecDepth 100000 in
set_option maxHeartbeats 6400000 in
theorem refPutR_any (B : Nat) (v : Value) (e : EN) (s : ByteArray) (hs : putR e = s) (w : World) (h : IsEntry B w v e) (hB : B ≤ w.heap.size) (hbb : BigB e.b) :
    Calls Tryz.prog 52 #[v] w fun r w' => r = .returned (.string s) ∧ Below w.heap.size w w' := by
  obtain ⟨lv, rfl, hl⟩ := h
  have HL := Lib.hid hl
  obtain ⟨ea, ec, rfl⟩ := hl.form
  have BX0 := Lib.hid (bx_new (w := w) (.cells #[.int .i64 e.pos, .int .i64 e.epoch, .string e.b.stream, .int .i64 e.b.expect, .int .i64 e.b.session, .int .i64 e.b.seq, .slice ea e.b.events.length ec] 53))
  obtain ⟨q, hq⟩ : ∃ q, rightR e = q := ⟨_, rfl⟩
  have CR := Lib.hid (refRightR_any B _ e q hq _ ⟨_, rfl, HL.out.keep (bx_below BX0.out) hB⟩ (Nat.le_trans hB (bx_below BX0.out).size) hbb)
  rw [putR, hq] at hs
  have HQ := Lib.hid hq
  clear hl hq
  cases q with
  | false =>
    obtain rfl : ⟨#[]⟩ = s := by rw [← hs, if_neg (by decide)]
    clear hs
    go_enter Tryz.func52, Tryz.ntmps52
    go_wp2_with fail
    refine CR.out.mono ?_
    rintro r w1 ⟨rfl, hb1⟩
    go_wp2_with fail
    go_ret
    exact ⟨rfl, bx_below (bx_more BX0.out hb1)⟩
  | true =>
    have z1 := pN_size e.pos
    have z2 := pN_size e.epoch
    have z3 := putB_le e.b
    have hsum : pN e.pos ++ pN e.epoch ++ putB e.b = s := by
      rw [← hs, if_pos rfl]
      apply ext_listE
      rw [list_addE, list_addE, bstr_list, List.append_assoc]
      rfl
    have HS := Lib.hid hsum
    have C1 := Lib.hid (rN_any e.pos)
    have C2 := Lib.hid (rN_any e.epoch)
    have C3 := Lib.hid (fun (X : World) (hX : Below w.heap.size w X) => refPutB_any B (.agg #[.string e.b.stream, .int .i64 e.b.expect, .int .i64 e.b.session, .int .i64 e.b.seq, .slice ea e.b.events.length ec]) e.b _ rfl X ⟨_, rfl, HL.out.keep hX hB⟩ (Nat.le_trans hB hX.size) (fits_light ((rightR_iff e).1 HQ.out).2.2))
    generalize pN e.pos = P1 at z1 C1 HS
    generalize pN e.epoch = P2 at z2 C2 HS
    generalize putB e.b = P3 at z3 C3 HS
    have a1 : ∀ W : World, (Op.stringOp .add P1 P2).run Tryz.prog W = .ok (.string (P1 ++ P2)) W := fun W => run_string_add_sum (P := Tryz.prog) (w := W) _ _ (by omega)
    have a2 : ∀ W : World, (Op.stringOp .add (P1 ++ P2) P3).run Tryz.prog W = .ok (.string (P1 ++ P2 ++ P3)) W := fun W => run_string_add_sum (P := Tryz.prog) (w := W) _ _ (by rw [ByteArray.size_append]; omega)
    have MKS := Lib.hid (fun (X' : World) (hk : Below (w.heap.size + 1) (w.alloc (.cells #[.int .i64 e.pos, .int .i64 e.epoch, .string e.b.stream, .int .i64 e.b.expect, .int .i64 e.b.session, .int .i64 e.b.seq, .slice ea e.b.events.length ec] 53)) X') => (show X'.cell? ⟨w.heap.size, 0, none⟩ = some (.int .i64 e.pos) ∧ X'.cell? ⟨w.heap.size, 1, none⟩ = some (.int .i64 e.epoch) ∧ X'.cell? ⟨w.heap.size, 2, none⟩ = some (.string e.b.stream) ∧ X'.cell? ⟨w.heap.size, 3, none⟩ = some (.int .i64 e.b.expect) ∧ X'.cell? ⟨w.heap.size, 4, none⟩ = some (.int .i64 e.b.session) ∧ X'.cell? ⟨w.heap.size, 5, none⟩ = some (.int .i64 e.b.seq) ∧ X'.cell? ⟨w.heap.size, 6, none⟩ = some (.slice ea e.b.events.length ec) ∧ Below (w.heap.size + 1) (w.alloc (.cells #[.int .i64 e.pos, .int .i64 e.epoch, .string e.b.stream, .int .i64 e.b.expect, .int .i64 e.b.session, .int .i64 e.b.seq, .slice ea e.b.events.length ec] 53)) X' from (fun h => ⟨h.1, h.2.1, h.2.2.1, h.2.2.2.1, h.2.2.2.2.1, h.2.2.2.2.2.1, h.2.2.2.2.2.2, hk⟩) (box7 hk)))
    have KEEP := Lib.hid (fun (X' X'' : World) (hS : X'.cell? ⟨w.heap.size, 0, none⟩ = some (.int .i64 e.pos) ∧ X'.cell? ⟨w.heap.size, 1, none⟩ = some (.int .i64 e.epoch) ∧ X'.cell? ⟨w.heap.size, 2, none⟩ = some (.string e.b.stream) ∧ X'.cell? ⟨w.heap.size, 3, none⟩ = some (.int .i64 e.b.expect) ∧ X'.cell? ⟨w.heap.size, 4, none⟩ = some (.int .i64 e.b.session) ∧ X'.cell? ⟨w.heap.size, 5, none⟩ = some (.int .i64 e.b.seq) ∧ X'.cell? ⟨w.heap.size, 6, none⟩ = some (.slice ea e.b.events.length ec) ∧ Below (w.heap.size + 1) (w.alloc (.cells #[.int .i64 e.pos, .int .i64 e.epoch, .string e.b.stream, .int .i64 e.b.expect, .int .i64 e.b.session, .int .i64 e.b.seq, .slice ea e.b.events.length ec] 53)) X') (k : Below X'.heap.size X' X'') => MKS.out X'' (bx_more hS.2.2.2.2.2.2.2 k))
    clear hs hsum
    go_enter Tryz.func52, Tryz.ntmps52
    go_wp2_with fail
    refine CR.out.mono ?_
    rintro r w1 ⟨rfl, hb1⟩
    have hh := MKS.out w1.drew (bx_more BX0.out hb1).drew
    obtain ⟨y0, y1, y2, y3, y4, y5, y6⟩ := box7 (bx_more BX0.out hb1)
    clear hb1
    go_wp2_with fail
    go_region_held3 (fun X' => X'.cell? ⟨w.heap.size, 0, none⟩ = some (.int .i64 e.pos) ∧ X'.cell? ⟨w.heap.size, 1, none⟩ = some (.int .i64 e.epoch) ∧ X'.cell? ⟨w.heap.size, 2, none⟩ = some (.string e.b.stream) ∧ X'.cell? ⟨w.heap.size, 3, none⟩ = some (.int .i64 e.b.expect) ∧ X'.cell? ⟨w.heap.size, 4, none⟩ = some (.int .i64 e.b.session) ∧ X'.cell? ⟨w.heap.size, 5, none⟩ = some (.int .i64 e.b.seq) ∧ X'.cell? ⟨w.heap.size, 6, none⟩ = some (.slice ea e.b.events.length ec) ∧ Below (w.heap.size + 1) (w.alloc (.cells #[.int .i64 e.pos, .int .i64 e.epoch, .string e.b.stream, .int .i64 e.b.expect, .int .i64 e.b.session, .int .i64 e.b.seq, .slice ea e.b.events.length ec] 53)) X') (first | exact hh | exact KEEP.out _ _ (by assumption) (by assumption))
      (first
        | ((with_reducible refine (C1.out _).mono ?_); rintro r w2 ⟨rfl, hb2⟩)
        | ((with_reducible refine (C2.out _).mono ?_); rintro r w3 ⟨rfl, hb3⟩)
        | ((with_reducible refine (C3.out _ (bx_below (KEEP.out _ _ (KEEP.out _ _ hh hb2) hb3).2.2.2.2.2.2.2)).mono ?_); rintro r w4 ⟨rfl, hb4⟩))
    have HF := Lib.hid (bx_below (KEEP.out _ _ (KEEP.out _ _ (KEEP.out _ _ hh hb2) hb3) hb4).2.2.2.2.2.2.2)
    clear a1 a2 hh hb2 hb3 hb4
    go_wp2_with fail
    go_ret
    exact ⟨ret_str HS.out, HF.out⟩

theorem putR_ne {e : EN} (h : rightR e = true) : (putR e).toList.isEmpty = false := by
  rw [putR, if_pos h, Bool.eq_false_iff]
  intro h2
  rw [List.isEmpty_iff, ByteArray.toList_eq, bstr_list] at h2
  have h1 := putN_pos (clampN e.pos)
  unfold bytesR putI at h2
  rw [(List.append_eq_nil_iff.1 h2).1] at h1
  simp at h1

set_option maxRecDepth 100000 in
set_option maxHeartbeats 6400000 in
theorem refPutRow_any (B : Nat) (v : Value) (l : List EN) (w : World) (h : IsEntries B w v l) (hB : B ≤ w.heap.size) (hr : ∀ x ∈ l, rightR x = true) (hl : l.length ≤ 1000) :
    Calls Tryz.prog 31 #[v] w fun r w' => r = .returned (.string (bstr (putL bytesR l))) ∧ Below w.heap.size w w' := by
  have HE := Lib.hid h
  have HALL := Lib.hid hr
  obtain ⟨a, cap, rfl⟩ := h.form
  have CN := Lib.hid (fun X : World => rN_any (l.length : Int) X)
  have zn := pN_size (l.length : Int)
  clear h hr
  go_enter Tryz.func31, Tryz.ntmps31
  go_wp2_with fail
  refine (CN.out _).mono ?_
  rintro r w1 ⟨rfl, hb1⟩
  have HB1 := Lib.hid hb1
  clear hb1
  go_wp2_with fail
  go_loopw [3, 4] (fun t3 t4 wr => ∃ k : Nat, k ≤ l.length ∧ t4 = .int .i64 k ∧ t3 = .string (bstr (putN (clampN l.length) ++ catL bytesR (l.take k))) ∧ Below w.heap.size w wr) (fun _ t4 _ => l.length - (intOf t4).toNat)
  case atStart => exact ⟨0, Nat.zero_le _, rfl, (by rw [show catL bytesR (l.take 0) = [] from rfl, List.append_nil]; rfl), HB1.out⟩
  case round =>
    obtain ⟨k, hk, rfl, rfl, hbl⟩ := hrel
    have HBL := Lib.hid hbl
    clear hbl
    by_cases hlt : k < l.length
    · obtain ⟨b, off, cap', he, hblk, _, hc1, hc2, hc3, hc4, hc5, hc6, ea, ec, hc7, hev⟩ := (HE.out.keep HBL.out hB).get k hlt
      obtain ⟨rfl, -, rfl⟩ : a = some ⟨b, off, none⟩ ∧ l.length = l.length ∧ cap = cap' := by injection he with e1 e2 e3; exact ⟨e1, e2, e3⟩
      clear he
      have hry := HALL.out l[k] (List.getElem_mem hlt)
      have HTK := Lib.hid (catL_take (put := bytesR) hlt)
      have zk := catR_le (l.take k)
      rw [List.length_take] at zk
      have z6 := putN_len6 (clampN_le (l.length : Int))
      obtain ⟨e, hy⟩ : ∃ e, l[k] = e := ⟨_, rfl⟩
      rw [hy] at hc1 hc2 hc3 hc4 hc5 hc6 hc7 hev hry HTK
      have HEV := Lib.hid hev
      have zy := bytesR_le e
      have hpr : putR e = bstr (bytesR e) := by rw [putR, if_pos hry]
      have hne := putR_ne hry
      rw [hpr] at hne
      have CP := Lib.hid (fun (X : World) (hX : Below wr.heap.size wr X) => refPutR_any wr.heap.size (.agg #[.int .i64 e.pos, .int .i64 e.epoch, .string e.b.stream, .int .i64 e.b.expect, .int .i64 e.b.session, .int .i64 e.b.seq, .slice ea e.b.events.length ec]) e _ hpr X ⟨_, rfl, (HEV.out.up (Nat.le_trans hB HBL.out.size)).keep hX (Nat.le_refl _)⟩ hX.size (fits_light ((rightR_iff e).1 hry).2.2).big)
      obtain ⟨pre, hpre⟩ : ∃ s, bstr (putN (clampN l.length) ++ catL bytesR (l.take k)) = s := ⟨_, rfl⟩
      have hps : pre.size ≤ 30000000 := by rw [← hpre, bstr_size, List.length_append]; omega
      have hadd : pre ++ bstr (bytesR e) = bstr (putN (clampN l.length) ++ catL bytesR (l.take (k + 1))) := by
        rw [← hpre, HTK.out]
        apply ext_listE
        rw [list_addE, bstr_list, bstr_list, bstr_list, List.append_assoc]
      have HADD := Lib.hid hadd
      have a1 : ∀ W : World, (Op.stringOp .add pre (bstr (bytesR e))).run Tryz.prog W = .ok (.string (pre ++ bstr (bytesR e))) W := fun W => run_string_add_sum (P := Tryz.prog) (w := W) _ _ (by rw [bstr_size]; omega)
      rw [hpre]
      have i1 : (0 : Int) ≤ (k : Int) := by omega
      have i2 : (k : Int) < (l.length : Int) := by omega
      clear hy hev hry hpr zk z6 zy zn hpre hps hadd
      go_wp2_with fail
      refine (CP.out _ (Below.refl _ _)).mono ?_
      rintro r w8 ⟨rfl, hb8⟩
      go_wp2_with fail
      go_roundw
      case rel => exact ⟨k + 1, by omega, by go_num, by rw [← HADD.out], bstep HBL.out hb8⟩
      case measure => simp [intOf]; omega
    · have g : ¬ ((k : Int) < (l.length : Int)) := by omega
      have hkl : l.take k = l := List.take_of_length_le (by omega)
      go_wp2_with fail
      go_ret
      exact ⟨rfl, HBL.out⟩
end Go.Proofs.YtflojipkgaocnaaGreatDoor
