/-
  The walks over the four-byte numbers of package num and of its reference.
-/
import Derived.Test.YtebliglfofjafaaProg
import Derived.Test.YtebliglfofjafaaFrPlain
import Derived.Test.YtebliglfofjafaaAid
import Derived.Laws.BitsAllLaws
import Derived.Laws.BitsLemmas
import Derived.WalkKit
import Derived.WalkSpells
import Derived.WalkLawsBesides
import Derived.Lib.Hide
import Derived.BigQuiet
import Derived.Deep.QuietTactic
namespace Go.Proofs.Ytebliglfofjafaa
open Go.RowKit

theorem drop_extract (s : ByteArray) (k : Nat) : (s.extract k s.size) = bstr (s.data.toList.drop k) := by
  apply ByteArray.ext
  apply Array.toList_inj.1
  rw [bstr_list]
  simp only [ByteArray.data_extract, Array.toList_extract, List.extract_eq_take_drop]
  rw [List.take_of_length_le (by simp)]

theorem fix4_cells (n : Nat) (hn : n < 4294967296) : #[Value.int IntKind.u8 ((n : Int) / 16777216), Value.int IntKind.u8 ((n : Int) / 65536 % 256), Value.int IntKind.u8 ((n : Int) / 256 % 256), Value.int IntKind.u8 ((n : Int) % 256)] = (bcells (fix4 n)).toArray := by
  unfold bcells fix4
  simp only [List.map_cons, List.map_nil]
  rw [toNat_of (show n / 16777216 % 256 < 256 by omega), toNat_of (show n / 65536 % 256 < 256 by omega), toNat_of (show n / 256 % 256 < 256 by omega), toNat_of (show n % 256 < 256 by omega),
    show (((n / 16777216 % 256 : Nat)) : Int) = (n : Int) / 16777216 by omega, show (((n / 65536 % 256 : Nat)) : Int) = (n : Int) / 65536 % 256 by omega,
    show (((n / 256 % 256 : Nat)) : Int) = (n : Int) / 256 % 256 by omega, show (((n % 256 : Nat)) : Int) = (n : Int) % 256 by omega]

theorem fixed_any (n : Nat) (w : World) (hn : n < 4294967296) :
    Calls Try.prog 20 #[.int .u32 n] w fun e w' => e = .returned (.string (bstr (fix4 n))) ∧ Below w.heap.size w w' := by
  have hcv := conv_block (P := Try.prog) w 38 9 5 4 (fix4 n) Try.underlying38 Try.underlying5 Try.underlying9
  rw [← fix4_cells n hn, show (fix4 n).length = 4 from rfl] at hcv
  go_enter Try.func20, Try.ntmps20
  go_wp2_with fail
  go_ret
  exact ⟨rfl, (Below.refl _ _).alloc (Nat.le_refl _) _⟩
theorem refFixed_any (n : Nat) (w : World) (hn : n < 4294967296) :
    Calls Try.prog 23 #[.int .u32 n] w fun e w' => e = .returned (.string (bstr (fix4 n))) ∧ Below w.heap.size w w' := by
  have hcv := conv_block (P := Try.prog) w 38 9 5 4 (fix4 n) Try.underlying38 Try.underlying5 Try.underlying9
  rw [← fix4_cells n hn, show (fix4 n).length = 4 from rfl] at hcv
  go_enter Try.func23, Try.ntmps23
  go_wp2_with fail
  go_ret
  exact ⟨rfl, (Below.refl _ _).alloc (Nat.le_refl _) _⟩
theorem u32_join (n x : Nat) (hn : n < 16777216) (hx : x < 256) : bits .or .u32 ((n : Int) * 256) (x : Int) = ((n * 256 + x : Nat) : Int) := by
  have h := u32_or_nat (n * 256) x (by omega) (by omega)
  have e : n * 256 ||| x = n * 256 + x := by
    have := Nat.two_pow_add_eq_or_of_lt (i := 8) (b := x) (by omega) n
    have e8 : (2 : Nat) ^ 8 = 256 := rfl
    rw [e8, Nat.mul_comm 256] at this
    exact this.symm
  rw [e] at h
  rw [← h]
  congr 1

set_option maxRecDepth 100000 in
set_option maxHeartbeats 800000 in
theorem takeFixed_str (s : ByteArray) (n : Nat) (r : ByteArray) (e : Nat) (h : takeF s.data.toList = (n, r.data.toList, e)) (hs : s.size ≤ maxLen) (w : World) :
    Calls Try.prog 27 #[.string s] w fun en w' => en = .returned (.tuple #[.int .u32 n, .string r, .int .i64 e]) ∧ Below w.heap.size w w' := by
  unfold maxLen at hs
  unfold takeF at h
  have hsl : s.data.toList.length = s.size := by simp
  by_cases h4 : s.size < 4
  · rw [if_pos (by omega)] at h
    obtain ⟨rfl, h2, rfl⟩ : 0 = n ∧ [] = r.data.toList ∧ 3 = e := by simpa using h
    have hr : r = ⟨#[]⟩ := by apply ByteArray.ext; exact Array.toList_inj.1 h2.symm
    subst hr
    clear h h2
    go_enter Try.func27, Try.ntmps27
    go_wp2_with fail
    go_ret3
    exact ⟨rfl, Below.refl _ _⟩
  · rw [if_neg (by omega)] at h
    obtain ⟨h1, h2, rfl⟩ : valB (s.data.toList.take 4) = n ∧ s.data.toList.drop 4 = r.data.toList ∧ 0 = e := by simpa using h
    have hr : s.extract 4 s.size = r := by rw [drop_extract, h2]; rfl
    have hx : (s.extract 0 4).size = 4 := by rw [ByteArray.size_extract]; omega
    obtain ⟨cap, C, hsz, hC, hconv⟩ := conv_text (P := Try.prog) w 9 38 5 (s.extract 0 4) Try.underlying9 Try.underlying38 Try.underlying5
    have hC' : ∀ j, (h : j < 4) → C[j]? = some (.int .u8 ((s[j]'(Nat.lt_of_lt_of_le h (Nat.not_lt.1 h4))).toNat : Int)) := by
      intro j hj
      rw [hC j (by omega)]
      congr 3
      simp [ByteArray.getElem_extract]
    rw [hx] at hconv
    have HC := Lib.hid hC'
    have Hv := Lib.hid h1
    have Hr := Lib.hid hr
    clear hC hC' h h1 h2 hr hx hsz
    have Hsl := Lib.hid hsl
    clear hsl
    have j1 : (4 : Int) ≤ (s.size : Int) := by omega
    go_enter Try.func27, Try.ntmps27
    go_wp2_with fail
    go_loop [5, 7, 15] (fun t5 _ t15 => ∃ k : Nat, k ≤ 4 ∧ t15 = .int .i64 k ∧ t5 = .int .u32 (valB (s.data.toList.take k))) (fun _ _ i => 4 - (intOf i).toNat)
    case atStart => exact ⟨0, by omega, rfl, rfl⟩
    case round =>
      clear hconv
      obtain ⟨k, hk, rfl, rfl⟩ := hrel
      have hv := valB_lt k (s.data.toList.take k) (by simp; omega)
      obtain ⟨q, hq⟩ : ∃ q, valB (s.data.toList.take k) = q := ⟨_, rfl⟩
      rw [hq] at hv ⊢
      have Hq := Lib.hid hq
      clear hq
      by_cases hlt : k < 4
      · have hcell : (w.alloc (.cells C 5 (C.size, C.size + 1))).cell? ⟨w.heap.size, k, none⟩ = some (.int .u8 (s[k].toNat : Int)) := by
          rw [World.cell?_alloc_mark]; exact HC.out k hlt
        have hq24 : q < 16777216 := Nat.lt_of_lt_of_le hv (Nat.pow_le_pow_right (n := 256) (by omega) (show k ≤ 3 by omega))
        obtain ⟨x, hxe⟩ : ∃ x, s[k].toNat = x := ⟨_, rfl⟩
        have hx256 : x < 256 := by rw [← hxe]; exact s[k].toNat_lt
        rw [hxe] at hcell
        have Hxe := Lib.hid hxe
        have hj := u32_join q x hq24 hx256
        clear hxe hv
        go_wp2_with fail
        go_round
        case rel =>
          refine ⟨k + 1, by omega, by go_num, ?_⟩
          rw [List.take_succ_eq_append_getElem (by simp; omega), valB_snoc, Hq.out, show (s.data.toList[k]'(by simp; omega)).toNat = x from Hxe.out]
          go_num
        case measure => simp [intOf]; omega
      · have hk4 : k = 4 := by omega
        have Hk := Lib.hid hk4
        have hq2 : q = n := by rw [← Hq.out, ← Hv.out, hk4]
        subst hq2
        clear hk4 hv
        go_wp2_with fail
        go_quiet (fail)
        go_wp2_with fail
        go_ret3
        exact ⟨by rw [← Hr.out]; rfl, below_drewN ((Below.refl _ _).alloc (Nat.le_refl _) _).drew _⟩

set_option maxRecDepth 100000 in
set_option maxHeartbeats 800000 in
theorem refTakeFixed_str (s : ByteArray) (n : Nat) (r : ByteArray) (e : Nat) (h : takeF s.data.toList = (n, r.data.toList, e)) (hs : s.size ≤ maxLen) (w : World) :
    Calls Try.prog 28 #[.string s] w fun en w' => en = .returned (.tuple #[.int .u32 n, .string r, .int .i64 e]) ∧ Below w.heap.size w w' := by
  unfold maxLen at hs
  unfold takeF at h
  have hsl : s.data.toList.length = s.size := by simp
  by_cases h4 : s.size < 4
  · rw [if_pos (by omega)] at h
    obtain ⟨rfl, h2, rfl⟩ : 0 = n ∧ [] = r.data.toList ∧ 3 = e := by simpa using h
    have hr : r = ⟨#[]⟩ := by apply ByteArray.ext; exact Array.toList_inj.1 h2.symm
    subst hr
    clear h h2
    go_enter Try.func28, Try.ntmps28
    go_wp2_with fail
    go_ret3
    exact ⟨rfl, Below.refl _ _⟩
  · rw [if_neg (by omega)] at h
    obtain ⟨h1, h2, rfl⟩ : valB (s.data.toList.take 4) = n ∧ s.data.toList.drop 4 = r.data.toList ∧ 0 = e := by simpa using h
    have hr : s.extract 4 s.size = r := by rw [drop_extract, h2]; rfl
    have Hv := Lib.hid h1
    have Hr := Lib.hid hr
    clear h h1 h2 hr
    have Hsl := Lib.hid hsl
    clear hsl
    have j1 : (4 : Int) ≤ (s.size : Int) := by omega
    go_enter Try.func28, Try.ntmps28
    go_wp2_with fail
    go_loop [5, 6] (fun t5 t6 => ∃ k : Nat, k ≤ 4 ∧ t6 = .int .i64 k ∧ t5 = .int .u32 (valB (s.data.toList.take k))) (fun _ i => 4 - (intOf i).toNat)
    case atStart => exact ⟨0, by omega, rfl, rfl⟩
    case round =>
      obtain ⟨k, hk, rfl, rfl⟩ := hrel
      have hv := valB_lt k (s.data.toList.take k) (by simp; omega)
      obtain ⟨q, hq⟩ : ∃ q, valB (s.data.toList.take k) = q := ⟨_, rfl⟩
      rw [hq] at hv ⊢
      have Hq := Lib.hid hq
      clear hq
      by_cases hlt : k < 4
      · have hq24 : q < 16777216 := Nat.lt_of_lt_of_le hv (Nat.pow_le_pow_right (n := 256) (by omega) (show k ≤ 3 by omega))
        have hks : k < s.size := by omega
        obtain ⟨x, hxe⟩ : ∃ x, s[k].toNat = x := ⟨_, rfl⟩
        have hx256 : x < 256 := by rw [← hxe]; exact s[k].toNat_lt
        have Hxe := Lib.hid hxe
        have hj := u32_join q x hq24 hx256
        rw [← hxe] at hj
        have hx2 : ((s[k].toNat : Int) % 4294967296) = (s[k].toNat : Int) := by have := s[k].toNat_lt; omega
        clear hxe hv
        go_wp2_with fail
        go_round
        case rel =>
          refine ⟨k + 1, by omega, by go_num, ?_⟩
          rw [List.take_succ_eq_append_getElem (by simp; omega), valB_snoc, Hq.out, show (s.data.toList[k]'(by simp; omega)).toNat = s[k].toNat from rfl]
          go_num
        case measure => simp [intOf]; omega
      · have hk4 : k = 4 := by omega
        have Hk := Lib.hid hk4
        have hq2 : q = n := by rw [← Hq.out, ← Hv.out, hk4]
        subst hq2
        clear hk4 hv
        go_wp2_with fail
        go_quiet (fail)
        go_wp2_with fail
        go_ret3
        exact ⟨by rw [← Hr.out]; rfl, below_drewN (Below.refl _ _) _⟩
end Go.Proofs.Ytebliglfofjafaa
