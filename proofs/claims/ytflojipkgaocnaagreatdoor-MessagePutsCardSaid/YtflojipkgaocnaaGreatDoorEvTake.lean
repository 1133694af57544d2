/-
  The walks over package num: taking.
-/
import Derived.Test.YtflojipkgaocnaaGreatDoorEvNum
import Derived.BigQuiet
import Derived.IntWalk
import Derived.Deep.QuietTactic
namespace Go.Proofs.YtflojipkgaocnaaGreatDoor
open Go.RowKit

/-- A number, a text and an error, as three results. -/
def res3 (r : Nat × List UInt8 × Nat) : Value := .tuple #[.int .i64 (r.1 : Int), .string (bstr r.2.1), .int .i64 (r.2.2 : Int)]

theorem take_acc (acc y k : Nat) (hk : k < 6) (hy : y < 128) (ha : acc < 128 ^ k) : bits .or .i64 (acc : Int) (wrap64 ((y : Int) * 2 ^ (7 * k))) = ((acc + y * 128 ^ k : Nat) : Int) ∧ acc + y * 128 ^ k < 128 ^ (k + 1) := by
  have e : 128 ^ k = 2 ^ (7 * k) := by rw [Nat.pow_mul]
  have hp : 128 ^ k ≤ 128 ^ 5 := Nat.pow_le_pow_right (by omega) (by omega)
  have h5 : (128 : Nat) ^ 5 = 34359738368 := rfl
  have hm : y * 128 ^ k ≤ 127 * 128 ^ k := Nat.mul_le_mul_right _ (by omega)
  have hs : acc + y * 128 ^ k < 128 ^ (k + 1) := by rw [Nat.pow_succ]; omega
  refine ⟨?_, hs⟩
  have hw : wrap64 ((y : Int) * 2 ^ (7 * k)) = ((y * 128 ^ k : Nat) : Int) := by
    have : ((y : Int) * 2 ^ (7 * k)) = ((y * 128 ^ k : Nat) : Int) := by rw [e]; simp
    rw [this]
    exact IntWalk.wrap64_in _ (by omega)
  rw [hw, i64_or_nat _ _ (by omega) (by omega)]
  congr 1
  rw [e] at ha ⊢
  exact or_disjoint acc y (7 * k) ha

theorem takeGo_at (k acc : Nat) (l : List UInt8) (h : k < l.length) : takeGo k acc (l.drop k) = (if k = 6 then (0, [], 2)
    else if 128 ≤ l[k].toNat then takeGo (k + 1) (acc + l[k].toNat % 128 * 128 ^ k) (l.drop (k + 1))
    else if l[k].toNat = 0 ∧ 0 < k then (0, [], 2)
    else if maxNum < acc + l[k].toNat % 128 * 128 ^ k then (0, [], 4)
    else (acc + l[k].toNat % 128 * 128 ^ k, l.drop (k + 1), 0)) := by
  rw [List.drop_eq_getElem_cons h, takeGo]

theorem drop_extract (s : ByteArray) (k : Nat) : (s.extract k s.size) = bstr (s.data.toList.drop k) := by
  apply ByteArray.ext
  apply Array.toList_inj.1
  rw [bstr_list]
  simp only [ByteArray.data_extract, Array.toList_extract, List.extract_eq_take_drop]
  rw [List.take_of_length_le (by simp)]

theorem take_end {s : ByteArray} {acc k : Nat} (h : takeN s.data.toList = (acc, s.data.toList.drop (k + 1), 0)) :
    Ending.returned (.tuple #[.int .i64 (acc : Int), .string (s.extract (k + 1) s.size), .int .i64 0]) = .returned (res3 (takeN s.data.toList)) := by
  rw [h, drop_extract]; rfl

set_option maxRecDepth 100000 in
set_option maxHeartbeats 800000 in
theorem take_any (s : ByteArray) (w : World) (hs : s.size ≤ maxLen) :
    Calls Tryz.prog 75 #[.string s] w fun e w' => e = .returned (res3 (takeN s.data.toList)) ∧ Below w.heap.size w w' := by
  unfold maxLen at hs
  obtain ⟨cap, C, hsz, hC, hconv⟩ := conv_text (P := Tryz.prog) w 9 98 5 s Tryz.underlying9 Tryz.underlying98 Tryz.underlying5
  have HC := Lib.hid hC; clear hC
  go_enter Tryz.func75, Tryz.ntmps75
  go_wp2_with fail
  go_loop [5, 6, 7, 11] (fun t5 _ _ t11 => ∃ k acc : Nat, k ≤ s.size ∧ k ≤ 6 ∧ t11 = .int .i64 k ∧ t5 = .int .i64 acc ∧ acc < 128 ^ k ∧ takeGo k acc (s.data.toList.drop k) = takeN s.data.toList) (fun _ _ _ i => s.size - (intOf i).toNat)
  case atStart => exact ⟨0, 0, Nat.zero_le _, by omega, rfl, rfl, by simp, rfl⟩
  case round =>
    clear hconv
    obtain ⟨k, acc, hk, hk6, rfl, rfl, hacc, hgo⟩ := hrel
    have Hgo := Lib.hid hgo
    clear hgo
    by_cases hlt : k < s.size
    · have hcell : (w.alloc (.cells C 5 (C.size, C.size + 1))).cell? ⟨w.heap.size, k, none⟩ = some (.int .u8 (s[k].toNat : Int)) := by
        rw [World.cell?_alloc_mark]; exact HC.out k hlt
      have hat := takeGo_at k acc s.data.toList (by simpa using hlt)
      rw [Hgo.out, show s.data.toList[k]'(by simpa using hlt) = s[k] from rfl] at hat
      by_cases h6 : k = 6
      · subst h6
        rw [if_pos rfl] at hat
        have Hat := Lib.hid hat
        clear hat
        go_wp2_with fail
        go_ret3
        exact ⟨by rw [Hat.out]; rfl, (((Below.refl _ _).alloc (Nat.le_refl _) _).drew)⟩
      · rw [if_neg h6] at hat
        have e1 := u8_low7 s[k]
        have e2 := u8_bit7 s[k]
        obtain ⟨x, hx⟩ : ∃ x, s[k].toNat = x := ⟨_, rfl⟩
        have hx256 : x < 256 := by rw [← hx]; exact s[k].toNat_lt
        rw [hx] at hcell hat e1 e2
        clear hx
        obtain ⟨e3, hacc2⟩ := take_acc acc (x % 128) k (by omega) (Nat.mod_lt _ (by omega)) hacc
        have hy : x % 128 < 128 := Nat.mod_lt _ (by omega)
        generalize x % 128 = y at hat e1 e3 hacc2 hy
        obtain ⟨acc2, ha2⟩ : ∃ a, acc + y * 128 ^ k = a := ⟨_, rfl⟩
        rw [ha2] at hat e3 hacc2
        clear ha2
        have g6 : ((k : Int) == 6) = false := by simp; omega
        have hbel : Below w.heap.size w (w.alloc (.cells C 5 (C.size, C.size + 1))).drew := ((Below.refl _ _).alloc (Nat.le_refl _) _).drew
        by_cases hb : 128 ≤ x
        · rw [if_pos hb] at hat
          rw [if_pos hb] at e2
          have Hat := Lib.hid hat
          clear hat
          go_wp2_with fail
          go_round
          case rel => exact ⟨k + 1, acc2, by omega, by omega, by go_num, rfl, hacc2, Hat.out.symm⟩
          case measure => simp [intOf]; omega
        · rw [if_neg hb] at hat e2
          by_cases hz : x = 0 ∧ 0 < k
          · obtain ⟨hz1, hz2⟩ := hz
            rw [if_pos ⟨hz1, hz2⟩] at hat
            have Hat := Lib.hid hat
            clear hat
            subst hz1
            go_wp2_with fail
            go_ret3
            exact ⟨by rw [Hat.out]; rfl, hbel⟩
          · rw [if_neg hz] at hat
            by_cases hm : maxNum < acc2
            · rw [if_pos hm] at hat
              unfold maxNum at hm
              have Hat := Lib.hid hat
              clear hat
              by_cases hx0 : x = 0
              · have hk0 : k = 0 := by omega
                have gx : ((x : Int) == 0) = true := by simp; omega
                have gk : ¬ 0 < k := by omega
                have Hx0 := Lib.hid hx0
                have Hk0 := Lib.hid hk0
                clear hx0 hk0 hz
                go_wp2_with fail
                go_ret3
                exact ⟨by rw [Hat.out]; rfl, hbel⟩
              · have gx : ((x : Int) == 0) = false := by simp; omega
                go_wp2_with fail
                go_ret3
                exact ⟨by rw [Hat.out]; rfl, hbel⟩
            · rw [if_neg hm] at hat
              unfold maxNum at hm
              have Hat := Lib.hid hat
              clear hat
              have i1 : (0 : Int) ≤ (k : Int) + 1 := by omega
              have i2 : (k : Int) + 1 ≤ (s.size : Int) := by omega
              have i3 : IntKind.i64.wrap ((k : Int) + 1) = (k : Int) + 1 := IntWalk.i64_in _ (by omega)
              have i4 : ((k : Int) + 1).toNat = k + 1 := by omega
              by_cases hx0 : x = 0
              · have hk0 : k = 0 := by omega
                have gx : ((x : Int) == 0) = true := by simp; omega
                have gk : ¬ 0 < k := by omega
                have Hx0 := Lib.hid hx0
                have Hk0 := Lib.hid hk0
                clear hx0 hk0 hz
                go_wp2_with fail
                go_quiet (fail)
                go_wp2_with fail
                go_ret3
                exact ⟨take_end Hat.out, below_drewN hbel _⟩
              · have gx : ((x : Int) == 0) = false := by simp; omega
                go_wp2_with fail
                go_quiet (fail)
                go_wp2_with fail
                go_ret3
                exact ⟨take_end Hat.out, below_drewN hbel _⟩
    · have hk2 : k = s.size := by omega
      subst hk2
      go_wp2_with fail
      go_ret3
      refine ⟨?_, (((Below.refl _ _).alloc (Nat.le_refl _) _).drew)⟩
      rw [← Hgo.out, List.drop_of_length_le (by simp), takeGo_nil]
      rfl
end Go.Proofs.YtflojipkgaocnaaGreatDoor
