/-
  The walk of the statement NumOnce: what is taken, put again, is the bytes that it was taken of.
-/
import Derived.Test.YtapeeajneikoeaaNumShown
import Derived.Deep.RegionHeld3
namespace Go.Proofs.Ytapeeajneikoeaa
open Go.RowKit

set_option maxRecDepth 100000 in
set_option maxHeartbeats 800000 in
theorem walkNumOnce (s : ByteArray) (hs : s.size ≤ maxLen) (w : World) :
    Calls Try.prog 7 #[.string s] w fun e w' => e = .returned (.bool true) ∧ Below w.heap.size w w' := by
  have hm := hs
  unfold maxLen at hm
  by_cases h500 : 500 < s.size
  · go_enter Try.func7, Try.ntmps7
    go_wp2_with fail
    refine (numShown _).mono ?_
    rintro e w1 ⟨rfl, h1⟩
    go_wp2_with fail
    go_ret
    exact ⟨rfl, h1⟩
  · obtain ⟨n, rl, er, hr⟩ : ∃ n r er, takeN s.data.toList = (n, r, er) := ⟨_, _, _, rfl⟩
    by_cases he : er = 0
    · subst he
      obtain ⟨hback, hn⟩ := takeN_back hr
      obtain ⟨r, rfl⟩ : ∃ r : ByteArray, rl = r.data.toList := ⟨bstr rl, rfl⟩
      have hlen : s.size = (putN n).length + r.size := by
        have := congrArg List.length hback
        simpa using this
      have hpos := putN_pos n
      obtain ⟨u, hu⟩ : ∃ u, (putN n).length = u := ⟨_, rfl⟩
      rw [hu] at hlen hpos
      have c1 := take_str s n r 0 hr hs
      have hx1 : s.extract 0 u = bstr (putN n) := by
        apply ByteArray.ext; apply Array.toList_inj.1
        simp only [ByteArray.data_extract, Array.toList_extract, List.extract_eq_take_drop, bstr_list]
        rw [hback, List.drop_zero, Nat.sub_zero, List.take_append_of_le_length (by omega), List.take_of_length_le (by omega)]
      have hx2 : s.extract u s.size = r := by
        rw [drop_extract, hback, List.drop_append_of_le_length (by omega), List.drop_of_length_le (by omega), List.nil_append]
        rfl
      have c2 := put_lit n (s.extract 0 u) (by rw [clampN_of hn, hx1])
      have c3 := take_str (s.extract 0 (u - 1)) 0 ⟨#[]⟩ 3 (by
        have := takeN_short (j := u - 1) hn (by omega)
        rw [← this]
        congr 1
        simp only [ByteArray.data_extract, Array.toList_extract, List.extract_eq_take_drop]
        rw [hback, List.drop_zero, Nat.sub_zero, List.take_append_of_le_length (by omega)]) (by rw [ByteArray.size_extract]; unfold maxLen; omega)
      unfold maxNum at hn
      have C1 := Lib.hid c1
      have C2 := Lib.hid c2
      have C3 := Lib.hid c3
      clear c1 c2 c3 hr hback hx1 hu
      have hu1 : (s.size : Int) - (r.size : Int) = (u : Int) := by omega
      have hu2 : (u : Int) - 1 = ((u - 1 : Nat) : Int) := by omega
      have hu3 : IntKind.i64.wrap ((u : Int) - 1) = ((u - 1 : Nat) : Int) := by rw [IntKind.wrap_i64]; omega
      have j1 : (0 : Int) ≤ (u : Int) := by omega
      have j2 : (u : Int) ≤ (s.size : Int) := by omega
      have j3 : (0 : Int) ≤ ((u - 1 : Nat) : Int) := by omega
      have j4 : ((u - 1 : Nat) : Int) ≤ (s.size : Int) := by omega
      have Hlen := Lib.hid hlen
      clear hlen
      generalize u - 1 = v at hu2 hu3 j3 j4 C3
      go_enter Try.func7, Try.ntmps7
      go_wp2_with fail
      refine (numShown _).mono ?_
      rintro e w1 ⟨rfl, h1⟩
      go_wp2_with fail
      refine (C1.out _).mono ?_
      rintro e w2 ⟨rfl, h2⟩
      go_wp2_with fail
      refine (C3.out _).mono ?_
      rintro e w3 ⟨rfl, h3⟩
      go_wp2_with fail
      go_region_held3 (fun _ => True) (trivial) (first | ((with_reducible refine (C2.out _).mono ?_); rintro e w' ⟨rfl, b1⟩))
      go_wp2_with fail
      go_ret
      exact ⟨ret_bool (decide_eq_true (by omega)), bstep (bstep (bstep h1 h2) h3).drew b1⟩
    · have hw := takeN_wrong (l := s.data.toList) (by rw [hr]; exact he)
      rw [hr] at hw
      obtain ⟨hn0, hr0⟩ := hw
      simp only at hn0 hr0
      subst hn0 hr0
      have c1 := take_str s 0 ⟨#[]⟩ er hr hs
      have C1 := Lib.hid c1
      have ge : ((er : Int) != 0) = true := by simp; omega
      clear c1 hr
      go_enter Try.func7, Try.ntmps7
      go_wp2_with fail
      refine (numShown _).mono ?_
      rintro e w1 ⟨rfl, h1⟩
      go_wp2_with fail
      refine (C1.out _).mono ?_
      rintro e w2 ⟨rfl, h2⟩
      go_wp2_with fail
      go_ret
      exact ⟨rfl, bstep h1 h2⟩
end Go.Proofs.Ytapeeajneikoeaa
