/-
  The walk of the statement NumBack: what was put is taken, with what stands behind it.
-/
import Derived.Test.YtapeeajneikoeaaNumTake3
import Derived.Test.YtapeeajneikoeaaNumLaw3
import Derived.Test.YtapeeajneikoeaaNumLaw4
namespace Go.Proofs.Ytapeeajneikoeaa
open Go.RowKit

theorem takeInt_str (s : ByteArray) (n : Int) (m : Nat) (r : ByteArray) (e : Nat) (h : takeN s.data.toList = (m, r.data.toList, e)) (hz : zag m = n) (hs : s.size ≤ maxLen) (w : World) :
    Calls Try.prog 28 #[.string s] w fun en w' => en = .returned (.tuple #[.int .i64 n, .string r, .int .i64 e]) ∧ Below w.heap.size w w' := by
  subst hz
  exact takeInt_lit s m r.data.toList e h hs w

theorem list_add (a b : ByteArray) : (a ++ b).data.toList = a.data.toList ++ b.data.toList := by simp

theorem takeT_putT (l m : List UInt8) (hl : l.length ≤ 1099511627776) (most : Int) (h : (l.length : Int) ≤ most) : takeT (putT l ++ m) most = (l, m, 0) := by
  have hc : clampN l.length = l.length := clampN_of (by unfold maxNum; omega)
  have ht : takeN (putT l ++ m) = (l.length, l ++ m, 0) := by
    unfold putT
    rw [hc, List.append_assoc, takeN_put (by unfold maxNum; omega)]
  unfold takeT
  rw [ht]
  simp only
  rw [if_neg (by simp), if_neg (by omega), if_neg (by simp), List.take_append_of_le_length (by omega), List.drop_append_of_le_length (by omega), List.take_of_length_le (by omega), List.drop_of_length_le (by omega), List.nil_append]

theorem takeT_long (l m : List UInt8) (hl : l.length ≤ 1099511627776) (most : Int) (h : most < (l.length : Int)) : takeT (putT l ++ m) most = ([], [], 4) := by
  have hc : clampN l.length = l.length := clampN_of (by unfold maxNum; omega)
  have ht : takeN (putT l ++ m) = (l.length, l ++ m, 0) := by
    unfold putT
    rw [hc, List.append_assoc, takeN_put (by unfold maxNum; omega)]
  unfold takeT
  rw [ht]
  simp only
  rw [if_neg (by simp), if_pos h]

theorem putT_len (l : List UInt8) : (putT l).length ≤ 6 + l.length := by
  unfold putT
  have := putN_len6 (clampN_le (l.length : Int))
  rw [List.length_append]
  omega

theorem putText_lit (s : ByteArray) (r : ByteArray) (h : bstr (putT s.data.toList) = r) (hs : s.size ≤ 4611686018427387904) (w : World) :
    Calls Try.prog 20 #[.string s] w fun e w' => e = .returned (.string r) ∧ Below w.heap.size w w' := by
  subst h
  exact putText_any s w hs
theorem fixed_lit (n : Nat) (r : ByteArray) (h : bstr (fix4 n) = r) (hn : n < 4294967296) (w : World) :
    Calls Try.prog 26 #[.int .u32 n] w fun e w' => e = .returned (.string r) ∧ Below w.heap.size w w' := by
  subst h
  exact fixed_any n w hn

set_option maxRecDepth 100000 in
set_option maxHeartbeats 3200000 in
theorem walkNumBack (n : Int) (_wn : (Lit.int .i64 n).wf = true) (m0 : Int) (wm : (Lit.int .u32 m0).wf = true) (s : ByteArray) (hs : s.size ≤ maxLen) (t : ByteArray) (ht : t.size ≤ maxLen) (w : World) :
    Calls Try.prog 11 #[.int .i64 n, .int .u32 m0, .string s, .string t] w fun e w' => e = .returned (.bool true) ∧ Below w.heap.size w w' := by
  obtain ⟨m, hm, rfl⟩ := u32_bounds' wm
  unfold maxLen at hs ht
  by_cases h : 500 < s.size ∨ 500 < t.size
  · go_enter Try.func11, Try.ntmps11
    go_wp2_with fail
    refine (numShown _).mono ?_
    rintro e w1 ⟨rfl, h1⟩
    go_wp2_with fail
    all_goals (go_ret; exact ⟨rfl, h1⟩)
  have k1 : s.size ≤ 500 := by omega
  have k2 : t.size ≤ 500 := by omega
  clear h hs ht
  have hsl : s.data.toList.length = s.size := by simp
  have la := putN_len6 (clampN_le n)
  have lb := putN_len6 (zig_le (clampS_bd n))
  have lc := putT_len s.data.toList
  have sa : (bstr (putN (clampN n))).size = (putN (clampN n)).length := bstr_size _
  have sb : (bstr (putN (zig (clampS n)))).size = (putN (zig (clampS n))).length := bstr_size _
  have sc : (bstr (putT s.data.toList)).size = (putT s.data.toList).length := bstr_size _
  have sd : (bstr (fix4 m)).size = 4 := bstr_size _
  have a1 : ∀ W : World, (Op.stringOp .add (bstr (putN (clampN n))) t).run Try.prog W = .ok (.string (bstr (putN (clampN n)) ++ t)) W := fun W => run_string_add_sum (P := Try.prog) (w := W) _ _ (by omega)
  have a2 : ∀ W : World, (Op.stringOp .add (bstr (putN (zig (clampS n)))) t).run Try.prog W = .ok (.string (bstr (putN (zig (clampS n))) ++ t)) W := fun W => run_string_add_sum (P := Try.prog) (w := W) _ _ (by omega)
  have a3 : ∀ W : World, (Op.stringOp .add (bstr (putT s.data.toList)) t).run Try.prog W = .ok (.string (bstr (putT s.data.toList) ++ t)) W := fun W => run_string_add_sum (P := Try.prog) (w := W) _ _ (by omega)
  have a4 : ∀ W : World, (Op.stringOp .add (bstr (fix4 m)) t).run Try.prog W = .ok (.string (bstr (fix4 m) ++ t)) W := fun W => run_string_add_sum (P := Try.prog) (w := W) _ _ (by omega)
  have c1 := put_lit n _ rfl
  have c2 := take_str (bstr (putN (clampN n)) ++ t) (clampN n) t 0 (by rw [list_add, bstr_list, takeN_put (clampN_le n)]) (by rw [ByteArray.size_append]; unfold maxLen; omega)
  have c3 := putInt_lit n _ rfl
  have c4 := takeInt_str (bstr (putN (zig (clampS n))) ++ t) (clampS n) (zig (clampS n)) t 0 (by rw [list_add, bstr_list, takeN_put (zig_le (clampS_bd n))]) (zag_zig _) (by rw [ByteArray.size_append]; unfold maxLen; omega)
  have c5 := putText_lit s _ rfl (by omega)
  have c6 := takeText_str (bstr (putT s.data.toList) ++ t) (s.size : Int) s t 0 (by rw [list_add, bstr_list, takeT_putT _ _ (by omega) _ (by omega)]) (by rw [ByteArray.size_append]; unfold maxLen; omega)
  have c7 := fixed_lit m _ rfl hm
  have c8 := takeFixed_str (bstr (fix4 m) ++ t) m t 0 (by rw [list_add, bstr_list, takeF_fix4 m hm]) (by rw [ByteArray.size_append]; unfold maxLen; omega)
  have c10 := takeText_str (bstr (putT s.data.toList) ++ t) ((s.size : Int) - 1) ⟨#[]⟩ ⟨#[]⟩ 4 (by rw [list_add, bstr_list, takeT_long _ _ (by omega) _ (by omega)]) (by rw [ByteArray.size_append]; unfold maxLen; omega)
  have m1 : (if (1099511627776 : Int) < n then 1099511627776 else n) = min n 1099511627776 := by split <;> omega
  have m3 : (if (0 : Int) < min n 1099511627776 then min n 1099511627776 else 0) = (clampN n : Int) := by unfold clampN clampI; split <;> omega
  have C1 := Lib.hid c1
  have C2 := Lib.hid c2
  have C3 := Lib.hid c3
  have C4 := Lib.hid c4
  have C5 := Lib.hid c5
  have C6 := Lib.hid c6
  have C7 := Lib.hid c7
  have C8 := Lib.hid c8
  have C10 := Lib.hid c10
  clear c1 c2 c3 c4 c5 c6 c7 c8 c10 hsl la lb lc sa sb sc sd
  have hcs : clampS n = clampI (-549755813888) 549755813888 n := rfl
  unfold clampI at hcs
  generalize min n 1099511627776 = n1 at m1 m3
  generalize bstr (putN (clampN n)) = A at *
  generalize bstr (putN (zig (clampS n))) = B at *
  generalize bstr (putT s.data.toList) = T at *
  generalize bstr (fix4 m) = F at *
  generalize clampN n = P at *
  generalize clampS n = M at *
  by_cases hlo : n ≤ -549755813888
  · obtain rfl : M = -549755813888 := by omega
    clear hcs
    go_enter Try.func11, Try.ntmps11
    go_wp2_with fail
    refine (numShown _).mono ?_
    rintro e w1 ⟨rfl, h1⟩
    go_wp2_with fail
    refine (C1.out _).mono ?_
    rintro e w2 ⟨rfl, h2⟩
    go_wp2_with fail
    refine (C2.out _).mono ?_
    rintro e w3 ⟨rfl, h3⟩
    go_wp2_with fail
    refine (C3.out _).mono ?_
    rintro e w4 ⟨rfl, h4⟩
    go_wp2_with fail
    refine (C4.out _).mono ?_
    rintro e w5 ⟨rfl, h5⟩
    go_wp2_with fail
    refine (C5.out _).mono ?_
    rintro e w6 ⟨rfl, h6⟩
    go_wp2_with fail
    refine (C6.out _).mono ?_
    rintro e w7 ⟨rfl, h7⟩
    go_wp2_with fail
    refine (C7.out _).mono ?_
    rintro e w8 ⟨rfl, h8⟩
    go_wp2_with fail
    refine (C8.out _).mono ?_
    rintro e w9 ⟨rfl, h9⟩
    go_wp2_with fail
    refine (C5.out _).mono ?_
    rintro e w10 ⟨rfl, h10⟩
    go_wp2_with fail
    refine (C10.out _).mono ?_
    rintro e w11 ⟨rfl, h11⟩
    go_wp2_with fail
    all_goals go_ret
    all_goals exact ⟨rfl, bstep (bstep (bstep (bstep (bstep (bstep (bstep (bstep (bstep (bstep h1 h2) h3) h4) h5) h6) h7) h8) h9) h10) h11⟩
  by_cases hhi : 549755813888 < n
  · obtain rfl : M = 549755813888 := by omega
    clear hcs
    go_enter Try.func11, Try.ntmps11
    go_wp2_with fail
    refine (numShown _).mono ?_
    rintro e w1 ⟨rfl, h1⟩
    go_wp2_with fail
    refine (C1.out _).mono ?_
    rintro e w2 ⟨rfl, h2⟩
    go_wp2_with fail
    refine (C2.out _).mono ?_
    rintro e w3 ⟨rfl, h3⟩
    go_wp2_with fail
    refine (C3.out _).mono ?_
    rintro e w4 ⟨rfl, h4⟩
    go_wp2_with fail
    refine (C4.out _).mono ?_
    rintro e w5 ⟨rfl, h5⟩
    go_wp2_with fail
    refine (C5.out _).mono ?_
    rintro e w6 ⟨rfl, h6⟩
    go_wp2_with fail
    refine (C6.out _).mono ?_
    rintro e w7 ⟨rfl, h7⟩
    go_wp2_with fail
    refine (C7.out _).mono ?_
    rintro e w8 ⟨rfl, h8⟩
    go_wp2_with fail
    refine (C8.out _).mono ?_
    rintro e w9 ⟨rfl, h9⟩
    go_wp2_with fail
    refine (C5.out _).mono ?_
    rintro e w10 ⟨rfl, h10⟩
    go_wp2_with fail
    refine (C10.out _).mono ?_
    rintro e w11 ⟨rfl, h11⟩
    go_wp2_with fail
    all_goals go_ret
    all_goals exact ⟨rfl, bstep (bstep (bstep (bstep (bstep (bstep (bstep (bstep (bstep (bstep h1 h2) h3) h4) h5) h6) h7) h8) h9) h10) h11⟩
  · obtain rfl : M = n := by omega
    clear hcs
    go_enter Try.func11, Try.ntmps11
    go_wp2_with fail
    refine (numShown _).mono ?_
    rintro e w1 ⟨rfl, h1⟩
    go_wp2_with fail
    refine (C1.out _).mono ?_
    rintro e w2 ⟨rfl, h2⟩
    go_wp2_with fail
    refine (C2.out _).mono ?_
    rintro e w3 ⟨rfl, h3⟩
    go_wp2_with fail
    refine (C3.out _).mono ?_
    rintro e w4 ⟨rfl, h4⟩
    go_wp2_with fail
    refine (C4.out _).mono ?_
    rintro e w5 ⟨rfl, h5⟩
    go_wp2_with fail
    refine (C5.out _).mono ?_
    rintro e w6 ⟨rfl, h6⟩
    go_wp2_with fail
    refine (C6.out _).mono ?_
    rintro e w7 ⟨rfl, h7⟩
    go_wp2_with fail
    refine (C7.out _).mono ?_
    rintro e w8 ⟨rfl, h8⟩
    go_wp2_with fail
    refine (C8.out _).mono ?_
    rintro e w9 ⟨rfl, h9⟩
    go_wp2_with fail
    refine (C5.out _).mono ?_
    rintro e w10 ⟨rfl, h10⟩
    go_wp2_with fail
    refine (C10.out _).mono ?_
    rintro e w11 ⟨rfl, h11⟩
    go_wp2_with fail
    all_goals go_ret
    all_goals exact ⟨rfl, bstep (bstep (bstep (bstep (bstep (bstep (bstep (bstep (bstep (bstep h1 h2) h3) h4) h5) h6) h7) h8) h9) h10) h11⟩
end Go.Proofs.Ytapeeajneikoeaa
