/-
  The walks of the laws FramePuts and FrameTakes.
-/
import Derived.Test.YtebliglfofjafaaFrShown
namespace Go.Proofs.Ytebliglfofjafaa
open Go.RowKit

theorem lists_bstr (l : List (List UInt8)) : lists (l.map bstr) = l := by
  rw [lists, List.map_map]
  exact (List.map_congr_left (fun x _ => bstr_list x)).trans (List.map_id _)

set_option maxRecDepth 100000 in
set_option maxHeartbeats 1600000 in
theorem walkFramePuts (p : ByteArray) (hp : p.size ≤ maxLen) (v : Value) (w : World) (hv : ∃ ss, IsStrs w v ss) :
    Calls Try.prog 3 #[.string p, v] w fun e w' => e = .returned (.bool true) ∧ Below w.heap.size w w' := by
  obtain ⟨ss, hv⟩ := hv
  have S0 := Lib.hid frShown
  by_cases hsm : SmallP ss
  · by_cases hlong : 8500 < p.size
    · have S1 := Lib.hid (fun w' h => small_lit v ss true (by simp [hsm]) w' h)
      go_enter Try.func3, Try.ntmps3
      go_wp2_with fail
      refine (S0.out _).mono ?_
      rintro e w1 ⟨rfl, h1⟩
      go_wp2_with fail
      refine (S1.out _ (hv.below h1)).mono ?_
      rintro e w2 ⟨rfl, rfl⟩
      go_wp2_with fail
      go_ret
      exact ⟨rfl, h1⟩
    · have S1 := Lib.hid (fun w' h => small_lit v ss true (by simp [hsm]) w' h)
      have hlen := hsm.1
      obtain ⟨q, hq⟩ : ∃ q : ByteArray, putFr p.data.toList = (q.data.toList, (putFr p.data.toList).2) := ⟨bstr (putFr p.data.toList).1, rfl⟩
      obtain ⟨r, hr⟩ : ∃ r : ByteArray, rowFr (lists ss) = (r.data.toList, (rowFr (lists ss)).2) := ⟨bstr (rowFr (lists ss)).1, rfl⟩
      have c1 := Lib.hid (frPut_str p q _ hq hp)
      have c2 := Lib.hid (refFrPut_str p q _ hq hp)
      have c3 := Lib.hid (row_lit v ss r _ hr (by omega))
      have c4 := Lib.hid (refRow_lit v ss r _ hr (by omega))
      clear hq hr hsm
      generalize (putFr p.data.toList).2 = E at c1 c2
      generalize (rowFr (lists ss)).2 = F at c3 c4
      go_enter Try.func3, Try.ntmps3
      go_wp2_with fail
      refine (S0.out _).mono ?_
      rintro e w1 ⟨rfl, h1⟩
      go_wp2_with fail
      refine (S1.out _ (hv.below h1)).mono ?_
      rintro e w2 ⟨rfl, rfl⟩
      go_wp2_with fail
      refine (c1.out _).mono ?_
      rintro e w3 ⟨rfl, h3⟩
      go_wp2_with fail
      refine (c2.out _).mono ?_
      rintro e w4 ⟨rfl, h4⟩
      go_wp2_with fail
      refine (c3.out _ (((hv.below h1).below h3).below h4)).mono ?_
      rintro e w5 ⟨rfl, h5⟩
      go_wp2_with fail
      refine (c4.out _ ((((hv.below h1).below h3).below h4).below h5)).mono ?_
      rintro e w6 ⟨rfl, h6⟩
      go_wp2_with fail
      go_ret
      exact ⟨rfl, bstep (bstep (bstep (bstep h1 h3) h4) h5) h6⟩
  · have S1 := Lib.hid (fun w' h => small_lit v ss false (by simp [hsm]) w' h)
    go_enter Try.func3, Try.ntmps3
    go_wp2_with fail
    refine (S0.out _).mono ?_
    rintro e w1 ⟨rfl, h1⟩
    go_wp2_with fail
    refine (S1.out _ (hv.below h1)).mono ?_
    rintro e w2 ⟨rfl, rfl⟩
    go_wp2_with fail
    go_ret
    exact ⟨rfl, h1⟩

set_option maxRecDepth 100000 in
set_option maxHeartbeats 1600000 in
theorem walkFrameTakes (s : ByteArray) (hs : s.size ≤ maxLen) (w : World) :
    Calls Try.prog 4 #[.string s] w fun e w' => e = .returned (.bool true) ∧ Below w.heap.size w w' := by
  have S0 := Lib.hid frShown
  by_cases hlong : 9000 < s.size
  · go_enter Try.func4, Try.ntmps4
    go_wp2_with fail
    refine (S0.out _).mono ?_
    rintro e w1 ⟨rfl, h1⟩
    go_wp2_with fail
    go_ret
    exact ⟨rfl, h1⟩
  · obtain ⟨p, r, E, ht⟩ : ∃ (p r : ByteArray) (E : Nat), takeFr s.data.toList = (p.data.toList, r.data.toList, E) := ⟨bstr (takeFr s.data.toList).1, bstr (takeFr s.data.toList).2.1, (takeFr s.data.toList).2.2, rfl⟩
    obtain ⟨ss, hss⟩ : ∃ ss, (scanFr s.data.toList).1 = lists ss := ⟨_, (lists_bstr _).symm⟩
    obtain ⟨n, hn⟩ : ∃ n, rowLen (lists ss) = n := ⟨_, rfl⟩
    have c1 := Lib.hid (frTake_str s p r E ht hs)
    have c2 := Lib.hid (refFrTake_str s p r E ht hs)
    have c3 := Lib.hid (scan_lit s ss n hss hn (by omega))
    have c4 := Lib.hid (refScan_lit s ss n hss hn (by omega))
    clear ht hss hn
    go_enter Try.func4, Try.ntmps4
    go_wp2_with fail
    refine (S0.out _).mono ?_
    rintro e w1 ⟨rfl, h1⟩
    go_wp2_with fail
    refine (c1.out _).mono ?_
    rintro e w2 ⟨rfl, h2⟩
    go_wp2_with fail
    refine (c2.out _).mono ?_
    rintro e w3 ⟨rfl, h3⟩
    go_wp2_with fail
    refine (c3.out _).mono ?_
    rintro e w4 ⟨v1, rfl, hv1, h4⟩
    go_wp2_with fail
    refine (c4.out _).mono ?_
    rintro e w5 ⟨v2, rfl, hv2, h5⟩
    go_wp2_with fail
    refine (same_lit _ _ ss ss true (by simp) _ (hv1.below h5) hv2).mono ?_
    rintro e w6 ⟨rfl, h6⟩
    go_wp2_with fail
    go_ret
    exact ⟨rfl, bstep (bstep (bstep (bstep (bstep h1 h2) h3) h4) h5) h6⟩
end Go.Proofs.Ytebliglfofjafaa
