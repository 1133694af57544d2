/-
  The walks over package num: putting.
-/
import Derived.Test.YtflojipkgaocnaaGreatDoorProg
import Derived.Test.YtflojipkgaocnaaGreatDoorNumBits
import Derived.Test.YtflojipkgaocnaaGreatDoorAid
import Derived.WalkKit
import Derived.WalkSpells
import Derived.WalkLawsBesides
import Derived.Lib.Hide
namespace Go.Proofs.YtflojipkgaocnaaGreatDoor
open Go.RowKit

theorem Tryz.binfo : (Tryz.prog.info? 5).map (fun i => (i.zero, i.size, i.bytes)) = some (some (.int .u8 0), 1, 1) := by kernel_rfl

def clampI (lo hi n : Int) : Int := max lo (min n hi)

theorem hold_any (n lo hi : Int) (w : World) :
    Calls Tryz.prog 51 #[.int .i64 n, .int .i64 lo, .int .i64 hi] w fun e w' => e = .returned (.int .i64 (clampI lo hi n)) ∧ w = w' := by
  go_enter Tryz.func51, Tryz.ntmps51
  go_wp2
  all_goals go_ret
  all_goals exact ⟨ret_int (by unfold clampI; omega), rfl⟩

/-- A number within its bounds. -/
def clampN (n : Int) : Nat := (clampI 0 1099511627776 n).toNat
theorem clampN_le (n : Int) : clampN n ≤ maxNum := by unfold clampN clampI maxNum; omega
theorem clampN_val (n : Int) : clampI 0 1099511627776 n = (clampN n : Int) := by unfold clampN clampI; omega
theorem clampN_of {n : Nat} (h : n ≤ maxNum) : clampN (n : Int) = n := by unfold maxNum at h; unfold clampN clampI; omega

set_option maxRecDepth 100000 in
set_option maxHeartbeats 400000 in
theorem put_any (n : Int) (w : World) :
    Calls Tryz.prog 28 #[.int .i64 n] w fun e w' => e = .returned (.string (bstr (putN (clampN n)))) ∧ Below w.heap.size w w' := by
  obtain ⟨i0, hi, hz0, hz1, hz2⟩ := info_parts Tryz.binfo
  have h1 := fun W => hold_any n 0 1099511627776 W
  rw [clampN_val] at h1
  have hle := clampN_le n
  have hlen := putN_len6 hle
  unfold maxNum at hle
  have H1 := Lib.hid h1
  clear h1
  generalize clampN n = N at H1 hle hlen
  go_enter Tryz.func28, Tryz.ntmps28
  go_wp2_with fail
  refine (H1.out _).mono ?_
  rintro e w1 ⟨rfl, rfl⟩
  go_wp2_with fail
  go_loopw [0, 3] (fun t0 v wr => ∃ (q : Nat) (pre : List UInt8), q ≤ N ∧ t0 = .int .i64 q ∧ pre ++ putN q = putN N ∧ wr.ownsRow w.heap.size 5 1 v pre.length (bcells pre) ∧ Below w.heap.size w wr) (fun t _ _ => (intOf t).toNat)
  case atStart => exact ⟨N, [], Nat.le_refl _, rfl, rfl, World.ownsRow_nil _ _ _ _, Below.refl _ _⟩
  case round =>
    obtain ⟨q, pre, hq, rfl, hpre, hown, hb⟩ := hrel
    have hpl : pre.length + (putN q).length ≤ 6 := by rw [← List.length_append, hpre]; exact hlen
    have Hpre := Lib.hid hpre
    clear hpre
    have hz := hb.size
    by_cases hlt : q < 128
    · have hx := u8_plain q (by omega)
      generalize hbb : UInt8.ofNat q = b at hx
      have Hbb := Lib.hid hbb
      have Hx := Lib.hid hx
      clear hbb hx
      go_wp2_with (at_builtin; refine wpList_append_lies _ rfl (.tmp 16) (.tmp 19) _ rfl w.heap.size 5 i0 _ 1 1 Tryz.underlying98 hi hz0 hz1 hz2 rfl (by omega) _ pre.length _ rfl (hown.alloc _) ⟨wr.heap.size, 0, none⟩ 1 1 [.int .u8 (q : Int)] rfl rfl (World.news_of_block (cs := #[.int .u8 (q : Int)]) (t := 5) (fr := (0, 0)) (heap_alloc_new wr _)) (by simp [Value.oneCell']) (by omega) (by unfold maxLen; omega) (by omega) (by simp; omega) (wr.heap.size + 1) (by simp) ?_; intro gg cap w2 hown2 hgrow hat hlt2; rw [show Value.int .u8 (q : Int) = .int .u8 (b.toNat : Int) from by rw [Hx.out], ← bcells_snoc] at hown2; have hcv := conv_own (P := Tryz.prog) (dst := 9) Tryz.underlying98 Tryz.underlying5 Tryz.underlying9 hown2)
      go_ret
      exact ⟨ret_str (by rw [← Hpre.out, putN_small hlt, Hbb.out]), (hb.alloc hz _).grown hgrow (by simp; omega) (fun j hj => (hown.lt j hj).1)⟩
    · have hx := u8_more q
      generalize hbb : UInt8.ofNat (q % 128 + 128) = b at hx
      have Hbb := Lib.hid hbb
      clear hbb
      go_wp2_with (at_builtin; refine wpList_append_lies _ rfl (.tmp 10) (.tmp 14) _ rfl w.heap.size 5 i0 _ 1 1 Tryz.underlying98 hi hz0 hz1 hz2 rfl (by omega) _ pre.length _ rfl (hown.alloc _) ⟨wr.heap.size, 0, none⟩ 1 1 [.int .u8 b.toNat] rfl rfl (World.news_of_block (cs := #[.int .u8 b.toNat]) (t := 5) (fr := (0, 0)) (heap_alloc_new wr _)) (by simp [Value.oneCell']) (by omega) (by unfold maxLen; omega) (by omega) (by simp; omega) (wr.heap.size + 1) (by simp) ?_; intro gg cap w2 hown2 hgrow hat hlt2)
      go_roundw
      case rel =>
        refine ⟨q / 128, pre ++ [b], by omega, by go_num, ?_, ?_, (hb.alloc hz _).grown hgrow (by simp; omega) (fun j hj => (hown.lt j hj).1)⟩
        · rw [List.append_assoc, ← Hpre.out, putN_large hlt, Hbb.out]; rfl
        · rw [bcells_snoc, List.length_append]; exact hown2
      case measure => simp [intOf]; omega

/-- A text as bytes. -/
def putT (l : List UInt8) : List UInt8 := putN (clampN l.length) ++ l

theorem putText_any (s : ByteArray) (w : World) (hs : s.size ≤ 4611686018427387904) :
    Calls Tryz.prog 44 #[.string s] w fun e w' => e = .returned (.string (bstr (putT s.data.toList))) ∧ Below w.heap.size w w' := by
  have hl := putN_len6 (clampN_le (s.size : Int))
  have hadd : ∀ W : World, (Op.stringOp .add (bstr (putN (clampN (s.size : Int)))) s).run Tryz.prog W = .ok (.string (bstr (putN (clampN (s.size : Int))) ++ s)) W :=
    fun W => run_string_add_sum (P := Tryz.prog) (w := W) _ s (by rw [bstr_size]; omega)
  go_enter Tryz.func44, Tryz.ntmps44
  go_wp2_with fail
  refine (put_any _ _).mono ?_
  rintro e w1 ⟨rfl, h1⟩
  go_wp2_with fail
  go_ret
  refine ⟨ret_str ?_, h1⟩
  unfold putT bstr
  apply ByteArray.ext
  simp

/-- Signed numbers, folded: 0, -1, 1, -2, .. -/
def zig (n : Int) : Nat := if 0 ≤ n then (2 * n).toNat else (-2 * n - 1).toNat
def zag (n : Nat) : Int := if n % 2 = 0 then (n : Int) / 2 else -((n : Int) / 2) - 1
def clampS (n : Int) : Int := clampI (-549755813888) 549755813888 n
theorem clampS_bd (n : Int) : -549755813888 ≤ clampS n ∧ clampS n ≤ 549755813888 := by unfold clampS clampI; omega
theorem zig_le {n : Int} (h : -549755813888 ≤ n ∧ n ≤ 549755813888) : zig n ≤ maxNum := by unfold zig maxNum; split <;> omega
theorem zag_zig (n : Int) : zag (zig n) = n := by
  unfold zig zag
  split
  · rw [if_pos (by omega)]; omega
  · rw [if_neg (by omega)]; omega

set_option maxRecDepth 100000 in
set_option maxHeartbeats 400000 in
theorem putInt_any (n : Int) (w : World) :
    Calls Tryz.prog 69 #[.int .i64 n] w fun e w' => e = .returned (.string (bstr (putN (zig (clampS n))))) ∧ Below w.heap.size w w' := by
  have hb := clampS_bd n
  have h1 := fun W => hold_any n (-549755813888) 549755813888 W
  have h2 := zig_le hb
  rw [show clampI (-549755813888) 549755813888 n = clampS n from rfl] at h1
  have H1 := Lib.hid h1
  clear h1
  generalize clampS n = m at hb h2 H1
  have hc := clampN_of h2
  have h3 := fun W => put_any (zig m : Int) W
  rw [hc] at h3
  clear hc h2
  have H3 := Lib.hid h3
  clear h3
  by_cases h0 : 0 ≤ m
  · obtain ⟨k, rfl⟩ := Int.eq_ofNat_of_zero_le h0
    have e3 : bits .xor .i64 ((k : Int) * 2) ((k : Int) / 9223372036854775808) = (zig (k : Int) : Int) := by
      have := i64_xor_zero (k * 2) (by omega)
      rw [show (((k * 2 : Nat) : Int)) = (k : Int) * 2 by omega] at this
      rw [show (k : Int) / 9223372036854775808 = 0 by omega, this]; unfold zig; rw [if_pos h0]; omega
    have E3 := Lib.hid e3
    clear e3
    go_enter Tryz.func69, Tryz.ntmps69
    go_wp2_with fail
    refine (H1.out _).mono ?_
    rintro e w1 ⟨rfl, rfl⟩
    go_wp2_with fail
    rw [E3.out]
    refine (H3.out _).mono ?_
    rintro e w1 ⟨rfl, h1⟩
    go_wp2_with fail
    go_ret
    exact ⟨rfl, h1⟩
  · have e3 : bits .xor .i64 (m * 2) (m / 9223372036854775808) = (zig m : Int) := by
      rw [show m / 9223372036854775808 = -1 by omega, i64_xor_neg _ (by omega) (by omega)]
      unfold zig; rw [if_neg h0]; omega
    have E3 := Lib.hid e3
    clear e3
    go_enter Tryz.func69, Tryz.ntmps69
    go_wp2_with fail
    refine (H1.out _).mono ?_
    rintro e w1 ⟨rfl, rfl⟩
    go_wp2_with fail
    rw [E3.out]
    refine (H3.out _).mono ?_
    rintro e w1 ⟨rfl, h1⟩
    go_wp2_with fail
    go_ret
    exact ⟨rfl, h1⟩

end Go.Proofs.YtflojipkgaocnaaGreatDoor
