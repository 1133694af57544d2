/-
  The walk of num.Put.
-/
import Derived.Test.YtigojackdkaanaaProg
import Derived.Test.YtigojackdkaanaaNumBits
import Derived.Test.YtigojackdkaanaaAid
import Derived.WalkKit
import Derived.WalkSpells
import Derived.WalkLawsBesides
import Derived.Lib.Hide
namespace Go.Proofs.Ytigojackdkaanaa
open Go.RowKit

theorem Try.binfo : (Try.prog.info? 5).map (fun i => (i.zero, i.size, i.bytes)) = some (some (.int .u8 0), 1, 1) := by kernel_rfl

def clampI (lo hi n : Int) : Int := max lo (min n hi)

theorem hold_any (n lo hi : Int) (w : World) :
    Calls Try.prog 75 #[.int .i64 n, .int .i64 lo, .int .i64 hi] w fun e w' => e = .returned (.int .i64 (clampI lo hi n)) ∧ w = w' := by
  go_enter Try.func75, Try.ntmps75
  go_wp2
  all_goals go_ret
  all_goals exact ⟨ret_int (by unfold clampI; omega), rfl⟩

/-- A number within its bounds. -/
def clampN (n : Int) : Nat := (clampI 0 1099511627776 n).toNat
theorem clampN_le (n : Int) : clampN n ≤ maxNum := by unfold clampN clampI maxNum; omega
theorem clampN_val (n : Int) : clampI 0 1099511627776 n = (clampN n : Int) := by unfold clampN clampI; omega
theorem clampN_of {n : Nat} (h : n ≤ maxNum) : clampN (n : Int) = n := by unfold maxNum at h; unfold clampN clampI; omega

set_option maxRecDepth 100000 in
set_option maxHeartbeats 400000 in
theorem put_any (n : Int) (w : World) :
    Calls Try.prog 63 #[.int .i64 n] w fun e w' => e = .returned (.string (bstr (putN (clampN n)))) ∧ Below w.heap.size w w' := by
  obtain ⟨i0, hi, hz0, hz1, hz2⟩ := info_parts Try.binfo
  have h1 := fun W => hold_any n 0 1099511627776 W
  rw [clampN_val] at h1
  have hle := clampN_le n
  have hlen := putN_len6 hle
  unfold maxNum at hle
  have H1 := Lib.hid h1
  clear h1
  generalize clampN n = N at H1 hle hlen
  go_enter Try.func63, Try.ntmps63
  go_wp2_with fail
  refine (H1.out _).mono ?_
  rintro e w1 ⟨rfl, rfl⟩
  go_wp2_with fail
  go_loopw [0, 3] (fun t0 v wr => ∃ (q : Nat) (pre : List UInt8), q ≤ N ∧ t0 = .int .i64 q ∧ pre ++ putN q = putN N ∧ wr.ownsRow w.heap.size 5 1 v pre.length (bcells pre) ∧ Below w.heap.size w wr) (fun t _ _ => (intOf t).toNat)
  case atStart => exact ⟨N, [], Nat.le_refl _, rfl, rfl, World.ownsRow_nil _ _ _ _, Below.refl _ _⟩
  case round =>
    obtain ⟨q, pre, hq, rfl, hpre, hown, hb⟩ := hrel
    have hpl : pre.length + (putN q).length ≤ 6 := by rw [← List.length_append, hpre]; exact hlen
    have Hpre := Lib.hid hpre
    clear hpre
    have hz := hb.size
    by_cases hlt : q < 128
    · have hx := u8_plain q (by omega)
      generalize hbb : UInt8.ofNat q = b at hx
      have Hbb := Lib.hid hbb
      have Hx := Lib.hid hx
      clear hbb hx
      go_wp2_with (at_builtin; refine wpList_append_lies _ rfl (.tmp 16) (.tmp 19) _ rfl w.heap.size 5 i0 _ 1 1 Try.underlying103 hi hz0 hz1 hz2 rfl (by omega) _ pre.length _ rfl (hown.alloc _) ⟨wr.heap.size, 0, none⟩ 1 1 [.int .u8 (q : Int)] rfl rfl (World.news_of_block (cs := #[.int .u8 (q : Int)]) (t := 5) (fr := (0, 0)) (heap_alloc_new wr _)) (by simp [Value.oneCell']) (by omega) (by unfold maxLen; omega) (by omega) (by simp; omega) (wr.heap.size + 1) (by simp) ?_; intro gg cap w2 hown2 hgrow hat hlt2; rw [show Value.int .u8 (q : Int) = .int .u8 (b.toNat : Int) from by rw [Hx.out], ← bcells_snoc] at hown2; have hcv := conv_own (P := Try.prog) (dst := 9) Try.underlying103 Try.underlying5 Try.underlying9 hown2)
      go_ret
      exact ⟨ret_str (by rw [← Hpre.out, putN_small hlt, Hbb.out]), (hb.alloc hz _).grown hgrow (by simp; omega) (fun j hj => (hown.lt j hj).1)⟩
    · have hx := u8_more q
      generalize hbb : UInt8.ofNat (q % 128 + 128) = b at hx
      have Hbb := Lib.hid hbb
      clear hbb
      go_wp2_with (at_builtin; refine wpList_append_lies _ rfl (.tmp 10) (.tmp 14) _ rfl w.heap.size 5 i0 _ 1 1 Try.underlying103 hi hz0 hz1 hz2 rfl (by omega) _ pre.length _ rfl (hown.alloc _) ⟨wr.heap.size, 0, none⟩ 1 1 [.int .u8 b.toNat] rfl rfl (World.news_of_block (cs := #[.int .u8 b.toNat]) (t := 5) (fr := (0, 0)) (heap_alloc_new wr _)) (by simp [Value.oneCell']) (by omega) (by unfold maxLen; omega) (by omega) (by simp; omega) (wr.heap.size + 1) (by simp) ?_; intro gg cap w2 hown2 hgrow hat hlt2)
      go_roundw
      case rel =>
        refine ⟨q / 128, pre ++ [b], by omega, by go_num, ?_, ?_, (hb.alloc hz _).grown hgrow (by simp; omega) (fun j hj => (hown.lt j hj).1)⟩
        · rw [List.append_assoc, ← Hpre.out, putN_large hlt, Hbb.out]; rfl
        · rw [bcells_snoc, List.length_append]; exact hown2
      case measure => simp [intOf]; omega

/-- A text as bytes. -/
def putT (l : List UInt8) : List UInt8 := putN (clampN l.length) ++ l
end Go.Proofs.Ytigojackdkaanaa
