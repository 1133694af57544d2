/-
  The walks over the reference of chapter 2: putting.
-/
import Derived.Test.YtflojipkgaocnaaGreatDoorEvNum
namespace Go.Proofs.YtflojipkgaocnaaGreatDoor
open Go.RowKit

theorem u8_moreR (q : Nat) : ((q : Int) % 128 + 128) = ((UInt8.ofNat (q % 128 + 128)).toNat : Int) := by
  rw [toNat_of (show q % 128 + 128 < 256 by omega)]; omega

set_option maxRecDepth 100000 in
set_option maxHeartbeats 800000 in
theorem refPut_any (n : Int) (w : World) :
    Calls Tryz.prog 30 #[.int .i64 n] w fun e w' => e = .returned (.string (bstr (putN (clampN n)))) ∧ Below w.heap.size w w' := by
  obtain ⟨i0, hi, hz0, hz1, hz2⟩ := info_parts Tryz.binfo
  have m1 : (if (1099511627776 : Int) < n then 1099511627776 else n) = min n 1099511627776 := by split <;> omega
  have m3 : (if (0 : Int) < min n 1099511627776 then min n 1099511627776 else 0) = (clampN n : Int) := by unfold clampN clampI; split <;> omega
  have hle := clampN_le n
  have hlen := putN_len6 hle
  unfold maxNum at hle
  generalize min n 1099511627776 = n1 at m1 m3
  generalize clampN n = N at m3 hle hlen
  go_enter Tryz.func30, Tryz.ntmps30
  go_wp2_with fail
  go_loopw [0, 3] (fun t0 v wr => ∃ (q : Nat) (pre : List UInt8), q ≤ N ∧ t0 = .int .i64 q ∧ pre ++ putN q = putN N ∧ wr.ownsRow w.heap.size 5 1 v pre.length (bcells pre) ∧ Below w.heap.size w wr) (fun t _ _ => (intOf t).toNat)
  case atStart => exact ⟨N, [], Nat.le_refl _, rfl, rfl, World.ownsRow_nil _ _ _ _, Below.refl _ _⟩
  case round =>
    obtain ⟨q, pre, hq, rfl, hpre, hown, hb⟩ := hrel
    have hpl : pre.length + (putN q).length ≤ 6 := by rw [← List.length_append, hpre]; exact hlen
    have Hpre := Lib.hid hpre
    clear hpre
    have hz := hb.size
    by_cases hlt : q < 128
    · have hx := u8_plain q (by omega)
      generalize hbb : UInt8.ofNat q = b at hx
      have Hbb := Lib.hid hbb
      have Hx := Lib.hid hx
      clear hbb hx
      go_wp2_with (at_builtin; refine wpList_append_lies _ rfl (.tmp 18) (.tmp 21) _ rfl w.heap.size 5 i0 _ 1 1 Tryz.underlying98 hi hz0 hz1 hz2 rfl (by omega) _ pre.length _ rfl (hown.alloc _) ⟨wr.heap.size, 0, none⟩ 1 1 [.int .u8 (q : Int)] rfl rfl (World.news_of_block (cs := #[.int .u8 (q : Int)]) (t := 5) (fr := (0, 0)) (heap_alloc_new wr _)) (by simp [Value.oneCell']) (by omega) (by unfold maxLen; omega) (by omega) (by simp; omega) (wr.heap.size + 1) (by simp) ?_; intro gg cap w2 hown2 hgrow hat hlt2; rw [show Value.int .u8 (q : Int) = .int .u8 (b.toNat : Int) from by rw [Hx.out], ← bcells_snoc] at hown2; have hcv := conv_own (P := Tryz.prog) (dst := 9) Tryz.underlying98 Tryz.underlying5 Tryz.underlying9 hown2)
      go_ret
      exact ⟨ret_str (by rw [← Hpre.out, putN_small hlt, Hbb.out]), (hb.alloc hz _).grown hgrow (by simp; omega) (fun j hj => (hown.lt j hj).1)⟩
    · have hx := u8_moreR q
      generalize hbb : UInt8.ofNat (q % 128 + 128) = b at hx
      have Hbb := Lib.hid hbb
      clear hbb
      go_wp2_with (at_builtin; refine wpList_append_lies _ rfl (.tmp 9) (.tmp 14) _ rfl w.heap.size 5 i0 _ 1 1 Tryz.underlying98 hi hz0 hz1 hz2 rfl (by omega) _ pre.length _ rfl (hown.alloc _) ⟨wr.heap.size, 0, none⟩ 1 1 [.int .u8 b.toNat] rfl rfl (World.news_of_block (cs := #[.int .u8 b.toNat]) (t := 5) (fr := (0, 0)) (heap_alloc_new wr _)) (by simp [Value.oneCell']) (by omega) (by unfold maxLen; omega) (by omega) (by simp; omega) (wr.heap.size + 1) (by simp) ?_; intro gg cap w2 hown2 hgrow hat hlt2)
      go_roundw
      case rel =>
        refine ⟨q / 128, pre ++ [b], by omega, by go_num, ?_, ?_, (hb.alloc hz _).grown hgrow (by simp; omega) (fun j hj => (hown.lt j hj).1)⟩
        · rw [List.append_assoc, ← Hpre.out, putN_large hlt, Hbb.out]; rfl
        · rw [bcells_snoc, List.length_append]; exact hown2
      case measure => simp [intOf]; omega

set_option maxRecDepth 100000 in
set_option maxHeartbeats 400000 in
theorem refPutInt_any (n : Int) (w : World) :
    Calls Tryz.prog 54 #[.int .i64 n] w fun e w' => e = .returned (.string (bstr (putN (zig (clampS n))))) ∧ Below w.heap.size w w' := by
  have key : ∀ k : Int, k = (zig (clampS n) : Int) → ∀ W, Calls Tryz.prog 30 #[.int .i64 k] W fun e w' => e = .returned (.string (bstr (putN (zig (clampS n))))) ∧ Below W.heap.size W w' := by
    intro k hk W
    subst hk
    have := refPut_any (zig (clampS n) : Int) W
    rw [clampN_of (zig_le (clampS_bd n))] at this
    exact this
  by_cases hlo : n ≤ -549755813888
  · have H3 := Lib.hid (key 1099511627775 (by unfold zig clampS clampI; split <;> omega))
    clear key
    go_enter Tryz.func54, Tryz.ntmps54
    go_wp2_with fail
    refine (H3.out _).mono ?_
    rintro e w1 ⟨rfl, h1⟩
    go_wp2_with fail
    go_ret
    exact ⟨rfl, h1⟩
  · by_cases hhi : 549755813888 < n
    · have H3 := Lib.hid (key 1099511627776 (by unfold zig clampS clampI; split <;> omega))
      clear key
      go_enter Tryz.func54, Tryz.ntmps54
      go_wp2_with fail
      refine (H3.out _).mono ?_
      rintro e w1 ⟨rfl, h1⟩
      go_wp2_with fail
      go_ret
      exact ⟨rfl, h1⟩
    · by_cases h0 : 0 ≤ n
      · have H3 := Lib.hid (key (2 * n) (by unfold zig clampS clampI; split <;> omega))
        clear key
        go_enter Tryz.func54, Tryz.ntmps54
        go_wp2_with fail
        refine (H3.out _).mono ?_
        rintro e w1 ⟨rfl, h1⟩
        go_wp2_with fail
        go_ret
        exact ⟨rfl, h1⟩
      · have H3 := Lib.hid (key (-2 * n - 1) (by unfold zig clampS clampI; split <;> omega))
        clear key
        go_enter Tryz.func54, Tryz.ntmps54
        go_wp2_with fail
        refine (H3.out _).mono ?_
        rintro e w1 ⟨rfl, h1⟩
        go_wp2_with fail
        go_ret
        exact ⟨rfl, h1⟩

theorem refPutText_any (s : ByteArray) (w : World) (hs : s.size ≤ 4611686018427387904) :
    Calls Tryz.prog 34 #[.string s] w fun e w' => e = .returned (.string (bstr (putT s.data.toList))) ∧ Below w.heap.size w w' := by
  have hl := putN_len6 (clampN_le (s.size : Int))
  have hadd : ∀ W : World, (Op.stringOp .add (bstr (putN (clampN (s.size : Int)))) s).run Tryz.prog W = .ok (.string (bstr (putN (clampN (s.size : Int))) ++ s)) W :=
    fun W => run_string_add_sum (P := Tryz.prog) (w := W) _ s (by rw [bstr_size]; omega)
  go_enter Tryz.func34, Tryz.ntmps34
  go_wp2_with fail
  refine (refPut_any _ _).mono ?_
  rintro e w1 ⟨rfl, h1⟩
  go_wp2_with fail
  go_ret
  refine ⟨ret_str ?_, h1⟩
  unfold putT bstr
  apply ByteArray.ext
  simp
end Go.Proofs.YtflojipkgaocnaaGreatDoor
